/- Texts put together: ScrG. -/
import Derived.Test.YtgpkedepboenpaaDoorMW9
import Derived.Test.YtgpkedepboenpaaDoorME9
/- Screens: the law ShiftGone. -/
section
namespace Go.Eng
open Go
variable {P : Program} {W : World}
/-- A slice without elements, whatever it is: nil or not; what the call makes of it. -/
theorem ACalls.of_empty {f : FuncId} {σ : Mem} {k : PV → Mem → Prop} {sz : Nat} (h : ∀ a cap, ACalls P W f [.lit (.slice a 0 cap)] σ k) : ACalls P W f [.sl sz []] σ k := by
  refine ⟨(h none 0).body, fun K w vs hl hr hm hp => ?_⟩
  obtain ⟨v, rfl⟩ := List.length_eq_one_iff.1 hl.symm
  have h0 := hr 0 (by simp)
  simp only [List.getD_cons_zero] at h0
  obtain ⟨a, cap, rfl⟩ : ∃ a cap, v = .slice a 0 cap := by
    cases h0 with
    | sl0 _ a cap => exact ⟨a, cap, rfl⟩
    | sl _ _ b o cap => exact ⟨_, cap, rfl⟩
  exact (h a cap).run K w _ rfl (fun i hi => by
    obtain rfl : i = 0 := by simpa using hi
    exact .lit _) hm hp
end Go.Eng
namespace Go.Eng.YtgpkedepboenpaaDoor
open Go Go.Eng Go.Proofs
variable (W : World)
set_option linter.unusedSimpArgs false
set_option maxRecDepth 100000
set_option linter.unusedVariables false
set_option maxHeartbeats 8000000
/-- A copy of rows: nil, or a row of the call's own. -/
abbrev GivesCopy (l : List PV) : PV → Mem → Prop := Gives (fun x : Option Nat => match x with | none => PV.nils | some b => .rsl b 1 0 l.length) (fun x => match x with | none => [] | some b => [⟨b, .row 1 l 0⟩]) (fun x => x = none → l = [])
theorem clone_rows0 (a : Option Addr) (c : Nat) : ACalls Tryd.prog W 29 [.lit (.slice a 0 c)] [] (GivesCopy []) := by
  refine acalls_of_vc (drawOk W) Tryd.func29 rfl (by decide) (by decide) rfl ?_
  (refine g0_ ?_; repeat ((first | refine n1_ fun b_ => ?_ | refine n2_ fun b_ => ?_ | refine n3_ fun b_ pre_ => ?_ | refine Nat1.mk fun q_ hq_ => ?_ | refine em_ fun x_ hx_ => ?_ | refine Elem1.mk fun e_ he_ => ?_); refine g0_ ?_))
  refine ⟨_, eql_nil Tryd.underlying30 (.inl ⟨_, _, rfl, rfl⟩), ?_⟩
  (refine g0_ ?_; repeat ((first | refine n1_ fun b_ => ?_ | refine n2_ fun b_ => ?_ | refine n3_ fun b_ pre_ => ?_ | refine Nat1.mk fun q_ hq_ => ?_ | refine em_ fun x_ hx_ => ?_ | refine Elem1.mk fun e_ he_ => ?_); refine g0_ ?_))
  refine brec ?_; intro c_ h; (try rw [h]); cases c_ <;> replace h := nm_ h
  · (refine g0_ ?_; repeat ((first | refine n1_ fun b_ => ?_ | refine n2_ fun b_ => ?_ | refine n3_ fun b_ pre_ => ?_ | refine Nat1.mk fun q_ hq_ => ?_ | refine em_ fun x_ hx_ => ?_ | refine Elem1.mk fun e_ he_ => ?_); refine g0_ ?_))
    refine .inr ?_
    (refine g0_ ?_; repeat ((first | refine n1_ fun b_ => ?_ | refine n2_ fun b_ => ?_ | refine n3_ fun b_ pre_ => ?_ | refine Nat1.mk fun q_ hq_ => ?_ | refine em_ fun x_ hx_ => ?_ | refine Elem1.mk fun e_ he_ => ?_); refine g0_ ?_))
    exact ⟨some _, (fun h => by cases h), rfl, by (first | exact ⟨_, .refl _⟩ | exact wkMem.rfl' | exact ⟨_, .swap _ _ _⟩ | (repeat (first | exact wkMem.nil _ | exact wkMem.rfl' | exact wk_snoc _ _ _ | exact wk_fam (by assumption) _ _ _ | exact wk_famN (by assumption) _ _ _ | (apply wkMem.cons; (case' hl => (repeat (first | exact .here _ _ _ | apply Look.there)))) | apply wkMem.skip)))⟩
  · (refine g0_ ?_; repeat ((first | refine n1_ fun b_ => ?_ | refine n2_ fun b_ => ?_ | refine n3_ fun b_ pre_ => ?_ | refine Nat1.mk fun q_ hq_ => ?_ | refine em_ fun x_ hx_ => ?_ | refine Elem1.mk fun e_ he_ => ?_); refine g0_ ?_))
    exact ⟨none, (fun _ => rfl), rfl, by (first | exact ⟨_, .refl _⟩ | exact wkMem.rfl' | exact ⟨_, .swap _ _ _⟩ | (repeat (first | exact wkMem.nil _ | exact wkMem.rfl' | exact wk_snoc _ _ _ | exact wk_fam (by assumption) _ _ _ | exact wk_famN (by assumption) _ _ _ | (apply wkMem.cons; (case' hl => (repeat (first | exact .here _ _ _ | apply Look.there)))) | apply wkMem.skip)))⟩
theorem clone_rows (l : List (List Cell)) (hl : l.length ≤ 1000000) : ACalls Tryd.prog W 29 [.sl 1 (l.map encRow)] [] (GivesCopy (l.map encRow)) := by
  cases l with
  | nil => exact ACalls.of_empty (clone_rows0 W)
  | cons r l =>
    have ha : ((r :: l).map encRow).all cellsB = true := rows_all (r :: l)
    have hlm : (l.map encRow).length = l.length := List.length_map _
    simp only [List.length_cons] at hl
    refine acalls_of_vc (drawOk W) Tryd.func29 rfl (by decide) (by decide) rfl ?_
    rw [List.map_cons] at *
    (refine g0_ ?_; repeat ((first | refine n1_ fun b_ => ?_ | refine n2_ fun b_ => ?_ | refine n3_ fun b_ pre_ => ?_ | refine Nat1.mk fun q_ hq_ => ?_ | refine em_ fun x_ hx_ => ?_ | refine Elem1.mk fun e_ he_ => ?_); refine g0_ ?_))
    refine ⟨_, eql_nil Tryd.underlying30 (.inr (.inl ⟨_, _, _, rfl, rfl⟩)), ?_⟩
    (refine g0_ ?_; repeat ((first | refine n1_ fun b_ => ?_ | refine n2_ fun b_ => ?_ | refine n3_ fun b_ pre_ => ?_ | refine Nat1.mk fun q_ hq_ => ?_ | refine em_ fun x_ hx_ => ?_ | refine Elem1.mk fun e_ he_ => ?_); refine g0_ ?_))
    refine .inr ?_
    (refine g0_ ?_; repeat ((first | refine n1_ fun b_ => ?_ | refine n2_ fun b_ => ?_ | refine n3_ fun b_ pre_ => ?_ | refine Nat1.mk fun q_ hq_ => ?_ | refine em_ fun x_ hx_ => ?_ | refine Elem1.mk fun e_ he_ => ?_); refine g0_ ?_))
    refine ⟨some b_, (fun h => by cases h), ?_, by (first | exact ⟨_, .refl _⟩ | exact wkMem.rfl' | exact ⟨_, .swap _ _ _⟩ | (repeat (first | exact wkMem.nil _ | exact wkMem.rfl' | exact wk_snoc _ _ _ | exact wk_fam (by assumption) _ _ _ | exact wk_famN (by assumption) _ _ _ | (apply wkMem.cons; (case' hl => (repeat (first | exact .here _ _ _ | apply Look.there)))) | apply wkMem.skip)))⟩
    show PV.rsl b_ 1 0 _ = PV.rsl b_ 1 0 _
    simp
theorem frz_drop {σ r : Mem} {b sz fz : Nat} {l : List PV} {k : Nat} (h : Look σ b (.row sz l fz) r) (hk : k ≤ l.length) (n : Nat) (hn : n = l.length - k) : Frz σ (.rsl b sz k n) (.sl sz (l.drop k)) := by
  have hk' : k = (l.take k).length := by rw [List.length_take]; omega
  have := frz_rowI (σ := σ) (b := b) (sz := sz) (fz := fz) (pre := l.take k) (l := l.drop k) (r := r) (by rw [List.take_append_drop]; exact h) n (by rw [List.length_drop]; exact hn)
  rw [← hk'] at this
  exact this
theorem shiftGone_ok (hT : Tabs W) (s : Scr) (hs : s.ok) (n : Int) (hn : -9223372036854775808 ≤ n ∧ n ≤ 9223372036854775807) :
    Pure Tryd.prog W 5 [encScr s, .int .i64 n] (.bool true) := by
  have hp := printed_ok W hT
  have hc := checkScr_ok W hT s hs
  by_cases h0 : checkS s = 0
  · rw [h0] at hc
    have hR := (check_iff s).1 h0
    obtain ⟨w, h, hr⟩ := right_of h0
    have htb := hR.tb
    have eh := hr.fit.eh
    have hh2 := hr.fit.h2
    have hgl := hr.gone
    by_cases hb : s.top = 0 ∧ 1 ≤ n ∧ n ≤ s.bottom + 1
    · obtain ⟨n, rfl⟩ := Int.eq_ofNat_of_zero_le (show 0 ≤ n by omega)
      have hup := shiftUp_ok W hT s hs n
      rw [moveE, if_pos h0] at hup
      dsimp only at hup
      have ht : timesL n = n := by unfold timesL; omega
      have hcn : cntS s n = n := by rw [cntS, ht]; omega
      have hlr : s.g.rows.length = h := hr.fit.rlen
      have hwk := shiftUp_wk hR hs hr.fit n
      have hgn : (shiftUpS s n).gone = lastN (s.gone ++ s.g.rows.take n) := by
        show (upsP s n).2 = _
        rw [upsP, hcn, show s.top.toNat = 0 by omega]
        exact ups_gone _ _ _ n _ _ (by omega) (by omega) hgl
      have hUo := hwk.okS
      have ra := rowsP_ok W s.g hr.fit
      have hrw := hwk.gone
      have hra := (wkR_of hR hs hr.fit).rows.cok
      have hrl := hr.fit.row
      have hw2 := hr.fit.w2
      have hso : ∀ r ∈ s.gone ++ s.g.rows.take n, r.length * 32 ≤ 140737488355328 ∧ ∀ c ∈ r, c.ok := fun r hr' => by
        rcases List.mem_append.1 hr' with hr' | hr'
        · exact hs.gone.2 r hr'
        · have := List.mem_of_mem_take hr'
          exact ⟨by have := hrl r this; omega, hra r this⟩
      have hsm := sameRows_ok W (shiftUpS s n).gone (lastN (s.gone ++ s.g.rows.take n)) (by rw [hgn]; unfold lastN; simp; omega) (by rw [hgn]; exact fun r hr' => hso r (List.mem_of_mem_drop hr')) (fun r hr' => hso r (List.mem_of_mem_drop hr'))
      rw [show decide ((shiftUpS s n).gone = lastN (s.gone ++ s.g.rows.take n)) = true from decide_eq_true hgn] at hsm
      rw [show shiftUpS s n = s.put (upsP s n).1 (upsP s n).2 from rfl] at *
      clear hwk hUo hrw hra hso hgn hcn ht
      have hcl := clone_rows W s.gone (by omega)
      have htl : (s.g.rows.take n).length = n := by rw [List.length_take]; omega
      obtain ⟨r0, T, hT0⟩ : ∃ r0 T, s.g.rows.take n = r0 :: T := by
        cases he : s.g.rows.take n with
        | nil => rw [he] at htl; simp at htl; omega
        | cons a l => exact ⟨a, l, rfl⟩
      refine Pure.of (acalls_of_vc (DL_ok (by decide)) Tryd.func5 rfl (by decide) (by decide) rfl ?_)
      (refine g0_ ?_; repeat ((first | refine n1_ fun b_ => ?_ | refine n2_ fun b_ => ?_ | refine n3_ fun b_ pre_ => ?_ | refine Nat1.mk fun q_ hq_ => ?_ | refine em_ fun x_ hx_ => ?_ | refine Elem1.mk fun e_ he_ => ?_); refine g0_ ?_))
      refine (hp).use ?_; (refine g0_ ?_; repeat ((first | refine n1_ fun b_ => ?_ | refine n2_ fun b_ => ?_ | refine n3_ fun b_ pre_ => ?_ | refine Nat1.mk fun q_ hq_ => ?_ | refine em_ fun x_ hx_ => ?_ | refine Elem1.mk fun e_ he_ => ?_); refine g0_ ?_))
      (refine g1_ ?_; repeat ((first | refine n1_ fun b_ => ?_ | refine n2_ fun b_ => ?_ | refine n3_ fun b_ pre_ => ?_ | refine Nat1.mk fun q_ hq_ => ?_ | refine em_ fun x_ hx_ => ?_ | refine Elem1.mk fun e_ he_ => ?_); refine g1_ ?_))
      refine (hc).use ?_; (refine g0_ ?_; repeat ((first | refine n1_ fun b_ => ?_ | refine n2_ fun b_ => ?_ | refine n3_ fun b_ pre_ => ?_ | refine Nat1.mk fun q_ hq_ => ?_ | refine em_ fun x_ hx_ => ?_ | refine Elem1.mk fun e_ he_ => ?_); refine g0_ ?_))
      (refine g1_ ?_; repeat ((first | refine n1_ fun b_ => ?_ | refine n2_ fun b_ => ?_ | refine n3_ fun b_ pre_ => ?_ | refine Nat1.mk fun q_ hq_ => ?_ | refine em_ fun x_ hx_ => ?_ | refine Elem1.mk fun e_ he_ => ?_); refine g1_ ?_))
      refine (hup).use ?_; (refine g0_ ?_; repeat ((first | refine n1_ fun b_ => ?_ | refine n2_ fun b_ => ?_ | refine n3_ fun b_ pre_ => ?_ | refine Nat1.mk fun q_ hq_ => ?_ | refine em_ fun x_ hx_ => ?_ | refine Elem1.mk fun e_ he_ => ?_); refine g0_ ?_))
      (refine g1_ ?_; repeat ((first | refine n1_ fun b_ => ?_ | refine n2_ fun b_ => ?_ | refine n3_ fun b_ pre_ => ?_ | refine Nat1.mk fun q_ hq_ => ?_ | refine em_ fun x_ hx_ => ?_ | refine Elem1.mk fun e_ he_ => ?_); refine g1_ ?_))
      refine Draws10.chain ⟨9, [.new, .new, .turn, .new, .new, .skip, .new, .skip, .skip], [(2, [.keep, .keep, .keep, .again, .again, .new, .again, .new, .turn]), (8, [.keep, .keep, .keep, .keep, .keep, .keep, .keep, .keep, .keep])], by decide +kernel, ?_⟩; (refine g0_ ?_; repeat ((first | refine n1_ fun b_ => ?_ | refine n2_ fun b_ => ?_ | refine n3_ fun b_ pre_ => ?_ | refine Nat1.mk fun q_ hq_ => ?_ | refine em_ fun x_ hx_ => ?_ | refine Elem1.mk fun e_ he_ => ?_); refine g0_ ?_))
      refine ACalls.give hcl ?_
      rintro (_ | bg) hx
      · have hg0 : s.gone = [] := List.map_eq_nil_iff.1 (hx rfl)
        have hTl : T.length + 1 = n := by rw [← htl, hT0]; rfl
        (refine g0_ ?_; repeat ((first | refine n1_ fun b_ => ?_ | refine n2_ fun b_ => ?_ | refine n3_ fun b_ pre_ => ?_ | refine Nat1.mk fun q_ hq_ => ?_ | refine em_ fun x_ hx_ => ?_ | refine Elem1.mk fun e_ he_ => ?_); refine g0_ ?_))
        refine ⟨_, (ra).quiet, ?_⟩; (refine g0_ ?_; repeat ((first | refine n1_ fun b_ => ?_ | refine n2_ fun b_ => ?_ | refine n3_ fun b_ pre_ => ?_ | refine Nat1.mk fun q_ hq_ => ?_ | refine em_ fun x_ hx_ => ?_ | refine Elem1.mk fun e_ he_ => ?_); refine g0_ ?_))
        rw [hT0]
        refine need.mk (rows_all (r0 :: T)) ?_
        (refine g0_ ?_; repeat ((first | refine n1_ fun b_ => ?_ | refine n2_ fun b_ => ?_ | refine n3_ fun b_ pre_ => ?_ | refine Nat1.mk fun q_ hq_ => ?_ | refine em_ fun x_ hx_ => ?_ | refine Elem1.mk fun e_ he_ => ?_); refine g0_ ?_))
        rw [List.length_map]
        have hwl : s.gone ++ s.g.rows.take n = (r0 :: T) := by rw [hg0, hT0]; rfl
        (refine g0_ ?_; repeat ((first | refine n1_ fun b_ => ?_ | refine n2_ fun b_ => ?_ | refine n3_ fun b_ pre_ => ?_ | refine Nat1.mk fun q_ hq_ => ?_ | refine em_ fun x_ hx_ => ?_ | refine Elem1.mk fun e_ he_ => ?_); refine g0_ ?_))
        refine brec ?_; intro c_ hk; (try rw [hk]); cases c_ <;> replace hk := nm_ hk
        · rw [hwl, show lastN (r0 :: T) = (r0 :: T) from by unfold lastN; rw [show ((r0 :: T)).length - 50 = 0 by simp only [List.length_append, List.length_cons]; omega]; rfl] at hsm
          (refine g0_ ?_; repeat ((first | refine n1_ fun b_ => ?_ | refine n2_ fun b_ => ?_ | refine n3_ fun b_ pre_ => ?_ | refine Nat1.mk fun q_ hq_ => ?_ | refine em_ fun x_ hx_ => ?_ | refine Elem1.mk fun e_ he_ => ?_); refine g0_ ?_))
          refine Pure.borrow hsm rfl rfl (fun i hi => ?_) ?_
          · match i, hi with
            | 0, _ => exact .refl _
            | 1, _ => exact frz_row (l := ((r0 :: T)).map encRow) (by first | exact .here _ _ _ | (rw [List.map_append]; exact .here _ _ _)) _ (by simp)
          · (refine g0_ ?_; repeat ((first | refine n1_ fun b_ => ?_ | refine n2_ fun b_ => ?_ | refine n3_ fun b_ pre_ => ?_ | refine Nat1.mk fun q_ hq_ => ?_ | refine em_ fun x_ hx_ => ?_ | refine Elem1.mk fun e_ he_ => ?_); refine g0_ ?_))
            exact .refl _
        · (refine g0_ ?_; repeat ((first | refine n1_ fun b_ => ?_ | refine n2_ fun b_ => ?_ | refine n3_ fun b_ pre_ => ?_ | refine Nat1.mk fun q_ hq_ => ?_ | refine em_ fun x_ hx_ => ?_ | refine Elem1.mk fun e_ he_ => ?_); refine g0_ ?_))
          have eD : lastN (r0 :: T) = ((r0 :: T)).drop q_ := by unfold lastN; congr 1; simp only [List.length_append, List.length_cons]; omega
          have hq2 : q_ ≤ ((r0 :: T)).length := by simp only [List.length_append, List.length_cons]; omega
          rw [hwl, eD, List.map_drop] at hsm
          refine Pure.borrow hsm rfl rfl (fun i hi => ?_) ?_
          · match i, hi with
            | 0, _ => exact .refl _
            | 1, _ =>
              show Frz _ (.rsl b_ 1 (0 + q_) _) _
              rw [Nat.zero_add]
              exact frz_drop (l := ((r0 :: T)).map encRow) (by first | exact .here _ _ _ | (rw [List.map_append]; exact .here _ _ _)) (by rw [List.length_map]; exact hq2) _ (by simp)
          · (refine g0_ ?_; repeat ((first | refine n1_ fun b_ => ?_ | refine n2_ fun b_ => ?_ | refine n3_ fun b_ pre_ => ?_ | refine Nat1.mk fun q_ hq_ => ?_ | refine em_ fun x_ hx_ => ?_ | refine Elem1.mk fun e_ he_ => ?_); refine g0_ ?_))
            exact .refl _
      · (refine g0_ ?_; repeat ((first | refine n1_ fun b_ => ?_ | refine n2_ fun b_ => ?_ | refine n3_ fun b_ pre_ => ?_ | refine Nat1.mk fun q_ hq_ => ?_ | refine em_ fun x_ hx_ => ?_ | refine Elem1.mk fun e_ he_ => ?_); refine g0_ ?_))
        refine ⟨_, (ra).quiet, ?_⟩; (refine g0_ ?_; repeat ((first | refine n1_ fun b_ => ?_ | refine n2_ fun b_ => ?_ | refine n3_ fun b_ pre_ => ?_ | refine Nat1.mk fun q_ hq_ => ?_ | refine em_ fun x_ hx_ => ?_ | refine Elem1.mk fun e_ he_ => ?_); refine g0_ ?_))
        refine need.mk (rows_all (s.g.rows.take n)) ?_
        (refine g0_ ?_; repeat ((first | refine n1_ fun b_ => ?_ | refine n2_ fun b_ => ?_ | refine n3_ fun b_ pre_ => ?_ | refine Nat1.mk fun q_ hq_ => ?_ | refine em_ fun x_ hx_ => ?_ | refine Elem1.mk fun e_ he_ => ?_); refine g0_ ?_))
        rw [List.length_map, List.length_map]
        have hwl : s.gone ++ s.g.rows.take n = s.gone ++ s.g.rows.take n := rfl
        (refine g0_ ?_; repeat ((first | refine n1_ fun b_ => ?_ | refine n2_ fun b_ => ?_ | refine n3_ fun b_ pre_ => ?_ | refine Nat1.mk fun q_ hq_ => ?_ | refine em_ fun x_ hx_ => ?_ | refine Elem1.mk fun e_ he_ => ?_); refine g0_ ?_))
        refine brec ?_; intro c_ hk; (try rw [hk]); cases c_ <;> replace hk := nm_ hk
        · rw [hwl, show lastN (s.gone ++ s.g.rows.take n) = (s.gone ++ s.g.rows.take n) from by unfold lastN; rw [show ((s.gone ++ s.g.rows.take n)).length - 50 = 0 by simp only [List.length_append, List.length_cons]; omega]; rfl] at hsm
          (refine g0_ ?_; repeat ((first | refine n1_ fun b_ => ?_ | refine n2_ fun b_ => ?_ | refine n3_ fun b_ pre_ => ?_ | refine Nat1.mk fun q_ hq_ => ?_ | refine em_ fun x_ hx_ => ?_ | refine Elem1.mk fun e_ he_ => ?_); refine g0_ ?_))
          refine Pure.borrow hsm rfl rfl (fun i hi => ?_) ?_
          · match i, hi with
            | 0, _ => exact .refl _
            | 1, _ => exact frz_row (l := ((s.gone ++ s.g.rows.take n)).map encRow) (by first | exact .here _ _ _ | (rw [List.map_append]; exact .here _ _ _)) _ (by simp)
          · (refine g0_ ?_; repeat ((first | refine n1_ fun b_ => ?_ | refine n2_ fun b_ => ?_ | refine n3_ fun b_ pre_ => ?_ | refine Nat1.mk fun q_ hq_ => ?_ | refine em_ fun x_ hx_ => ?_ | refine Elem1.mk fun e_ he_ => ?_); refine g0_ ?_))
            exact .refl _
        · (refine g0_ ?_; repeat ((first | refine n1_ fun b_ => ?_ | refine n2_ fun b_ => ?_ | refine n3_ fun b_ pre_ => ?_ | refine Nat1.mk fun q_ hq_ => ?_ | refine em_ fun x_ hx_ => ?_ | refine Elem1.mk fun e_ he_ => ?_); refine g0_ ?_))
          have eD : lastN (s.gone ++ s.g.rows.take n) = ((s.gone ++ s.g.rows.take n)).drop q_ := by unfold lastN; congr 1; simp only [List.length_append, List.length_cons]; omega
          have hq2 : q_ ≤ ((s.gone ++ s.g.rows.take n)).length := by simp only [List.length_append, List.length_cons]; omega
          rw [hwl, eD, List.map_drop] at hsm
          refine Pure.borrow hsm rfl rfl (fun i hi => ?_) ?_
          · match i, hi with
            | 0, _ => exact .refl _
            | 1, _ =>
              show Frz _ (.rsl b_ 1 (0 + q_) _) _
              rw [Nat.zero_add]
              exact frz_drop (l := ((s.gone ++ s.g.rows.take n)).map encRow) (by first | exact .here _ _ _ | (rw [List.map_append]; exact .here _ _ _)) (by rw [List.length_map]; exact hq2) _ (by simp)
          · (refine g0_ ?_; repeat ((first | refine n1_ fun b_ => ?_ | refine n2_ fun b_ => ?_ | refine n3_ fun b_ pre_ => ?_ | refine Nat1.mk fun q_ hq_ => ?_ | refine em_ fun x_ hx_ => ?_ | refine Elem1.mk fun e_ he_ => ?_); refine g0_ ?_))
            exact .refl _
    · refine Pure.of (acalls_of_vc (DL_ok (by decide)) Tryd.func5 rfl (by decide) (by decide) rfl ?_)
      (refine g0_ ?_; repeat ((first | refine n1_ fun b_ => ?_ | refine n2_ fun b_ => ?_ | refine n3_ fun b_ pre_ => ?_ | refine Nat1.mk fun q_ hq_ => ?_ | refine em_ fun x_ hx_ => ?_ | refine Elem1.mk fun e_ he_ => ?_); refine g0_ ?_))
      refine (hp).use ?_; (refine g0_ ?_; repeat ((first | refine n1_ fun b_ => ?_ | refine n2_ fun b_ => ?_ | refine n3_ fun b_ pre_ => ?_ | refine Nat1.mk fun q_ hq_ => ?_ | refine em_ fun x_ hx_ => ?_ | refine Elem1.mk fun e_ he_ => ?_); refine g0_ ?_))
      (refine g1_ ?_; repeat ((first | refine n1_ fun b_ => ?_ | refine n2_ fun b_ => ?_ | refine n3_ fun b_ pre_ => ?_ | refine Nat1.mk fun q_ hq_ => ?_ | refine em_ fun x_ hx_ => ?_ | refine Elem1.mk fun e_ he_ => ?_); refine g1_ ?_))
      refine (hc).use ?_; (refine g0_ ?_; repeat ((first | refine n1_ fun b_ => ?_ | refine n2_ fun b_ => ?_ | refine n3_ fun b_ pre_ => ?_ | refine Nat1.mk fun q_ hq_ => ?_ | refine em_ fun x_ hx_ => ?_ | refine Elem1.mk fun e_ he_ => ?_); refine g0_ ?_))
      (refine g1_ ?_; repeat ((first | refine n1_ fun b_ => ?_ | refine n2_ fun b_ => ?_ | refine n3_ fun b_ pre_ => ?_ | refine Nat1.mk fun q_ hq_ => ?_ | refine em_ fun x_ hx_ => ?_ | refine Elem1.mk fun e_ he_ => ?_); refine g1_ ?_))
      refine (hp).use ?_; (refine g0_ ?_; repeat ((first | refine n1_ fun b_ => ?_ | refine n2_ fun b_ => ?_ | refine n3_ fun b_ pre_ => ?_ | refine Nat1.mk fun q_ hq_ => ?_ | refine em_ fun x_ hx_ => ?_ | refine Elem1.mk fun e_ he_ => ?_); refine g0_ ?_))
      exact .refl _
  · refine Pure.of (acalls_of_vc (DL_ok (by decide)) Tryd.func5 rfl (by decide) (by decide) rfl ?_)
    (refine g0_ ?_; repeat ((first | refine n1_ fun b_ => ?_ | refine n2_ fun b_ => ?_ | refine n3_ fun b_ pre_ => ?_ | refine Nat1.mk fun q_ hq_ => ?_ | refine em_ fun x_ hx_ => ?_ | refine Elem1.mk fun e_ he_ => ?_); refine g0_ ?_))
    refine (hp).use ?_; (refine g0_ ?_; repeat ((first | refine n1_ fun b_ => ?_ | refine n2_ fun b_ => ?_ | refine n3_ fun b_ pre_ => ?_ | refine Nat1.mk fun q_ hq_ => ?_ | refine em_ fun x_ hx_ => ?_ | refine Elem1.mk fun e_ he_ => ?_); refine g0_ ?_))
    (refine g1_ ?_; repeat ((first | refine n1_ fun b_ => ?_ | refine n2_ fun b_ => ?_ | refine n3_ fun b_ pre_ => ?_ | refine Nat1.mk fun q_ hq_ => ?_ | refine em_ fun x_ hx_ => ?_ | refine Elem1.mk fun e_ he_ => ?_); refine g1_ ?_))
    refine (hc).use ?_; (refine g0_ ?_; repeat ((first | refine n1_ fun b_ => ?_ | refine n2_ fun b_ => ?_ | refine n3_ fun b_ pre_ => ?_ | refine Nat1.mk fun q_ hq_ => ?_ | refine em_ fun x_ hx_ => ?_ | refine Elem1.mk fun e_ he_ => ?_); refine g0_ ?_))
    (refine g1_ ?_; repeat ((first | refine n1_ fun b_ => ?_ | refine n2_ fun b_ => ?_ | refine n3_ fun b_ pre_ => ?_ | refine Nat1.mk fun q_ hq_ => ?_ | refine em_ fun x_ hx_ => ?_ | refine Elem1.mk fun e_ he_ => ?_); refine g1_ ?_))
    refine (hp).use ?_; (refine g0_ ?_; repeat ((first | refine n1_ fun b_ => ?_ | refine n2_ fun b_ => ?_ | refine n3_ fun b_ pre_ => ?_ | refine Nat1.mk fun q_ hq_ => ?_ | refine em_ fun x_ hx_ => ?_ | refine Elem1.mk fun e_ he_ => ?_); refine g0_ ?_))
    exact .refl _
end Go.Eng.YtgpkedepboenpaaDoor
end
