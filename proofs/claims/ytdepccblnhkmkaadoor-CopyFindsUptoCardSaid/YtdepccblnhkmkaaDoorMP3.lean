/- Texts put together: Copy9. -/
import Derived.Test.YtdepccblnhkmkaaDoorMP2
/- The law CopyTake. -/
section
namespace Go.Eng.YtdepccblnhkmkaaDoor
open Go Go.Eng Go.Proofs
variable (W : World)
set_option linter.unusedSimpArgs false
set_option maxRecDepth 100000
set_option linter.unusedVariables false
set_option maxHeartbeats 8000000
theorem noCopying_ok : noCopying.ok := by decide
theorem copying_ok0 {L : Nat} {c : Copying} (g3 : 0 ≤ c.at_.y ∧ c.at_.y < L ∧ 0 ≤ c.at_.x ∧ c.at_.x ≤ 120) (hL : L ≤ 110) : c.at_.ok := by
  unfold Mark.ok i64ok; omega
/-- Which runes the document takes. -/
theorem keep_iff {a b : Mark} {s : List UInt8} {y k : Nat} {p : Nat × Nat} (h1 : a.y ≤ y) (h2 : (y : Int) ≤ b.y) (hp : (spotsL s)[k]? = some p) :
    (fromF (spotsL s) (decide ((y : Int) = a.y)) a.x ≤ k ∧ (k : Int) ≤ toF (spotsL s) (decide ((y : Int) = b.y)) b.x) ↔ ((a.y < y ∨ a.x ≤ (p.2 : Int) + widthL p.1 - 1) ∧ ((y : Int) < b.y ∨ (p.2 : Int) ≤ b.x)) := by
  rw [fromF_iff s _ a.x hp, toF_iff s _ b.x hp]
  simp only [decide_eq_false_iff_not]
  constructor <;> rintro ⟨h3, h4⟩ <;> constructor <;> omega
theorem copyTake_ok (hT : Tabs W) (ls : List (List UInt8)) (hk : ∀ s ∈ ls, True) (hf : ls.length * 16 ≤ 140737488351232 ∧ ∀ s ∈ ls, s.length ≤ 140737488351232) (c : Copying) (hc : c.ok) (on : Bool) :
    Pure Tryd.prog W 3 [encLines ls, encCopying c, .bool on] (.bool true) := by
  have hl : ls.length ≤ 17592186044416 := by omega
  have hb : ∀ s ∈ ls, s.length ≤ 140737488355328 := fun s hs => by have := hf.2 s hs; omega
  have hck := badCopy_ok W ls c hl hb
  have hse := select_ok W ls c on hl hb
  have hta := take_ok W hT ls c hl hb
  have hco := copied_ok W hT
  by_cases h : checkC ls c = 0
  · obtain ⟨g1, g2, g3, g4⟩ := check_zero h
    have hlm : (ls.map PV.str).length = ls.length := List.length_map _
    rw [h] at hck
    rw [selectE, if_neg (by simpa using h)] at hse
    rw [takeE, if_neg (by simpa using h)] at hta
    dsimp only at hse
    have hao := copying_ok0 g3 g1.2
    obtain ⟨D, hD⟩ : ∃ D : Copying, D = ⟨c.at_, if on = true then c.at_ else noMark, on⟩ := ⟨_, rfl⟩
    have hDo : D.ok := by
      subst hD
      refine ⟨hao, ?_⟩
      dsimp only
      split
      · exact hao
      · decide
    rw [← hD] at hse
    refine Pure.of (acalls_of_vc (DH_ok (by decide)) Tryd.func3 rfl (by decide) (by decide) rfl ?_)
    (refine g0_ ?_; repeat ((first | refine n1_ fun b_ => ?_ | refine n2_ fun b_ => ?_ | refine Nat1.mk fun q_ hq_ => ?_ | refine em_ fun x_ hx_ => ?_ | refine Elem1.mk fun e_ he_ => ?_); refine g0_ ?_))
    refine (hse).use ?_; (refine g0_ ?_; repeat ((first | refine n1_ fun b_ => ?_ | refine n2_ fun b_ => ?_ | refine Nat1.mk fun q_ hq_ => ?_ | refine em_ fun x_ hx_ => ?_ | refine Elem1.mk fun e_ he_ => ?_); refine g0_ ?_))
    refine (hta).use ?_; (refine g0_ ?_; repeat ((first | refine n1_ fun b_ => ?_ | refine n2_ fun b_ => ?_ | refine Nat1.mk fun q_ hq_ => ?_ | refine em_ fun x_ hx_ => ?_ | refine Elem1.mk fun e_ he_ => ?_); refine g0_ ?_))
    refine (hck).use ?_; (refine g0_ ?_; repeat ((first | refine n1_ fun b_ => ?_ | refine n2_ fun b_ => ?_ | refine Nat1.mk fun q_ hq_ => ?_ | refine em_ fun x_ hx_ => ?_ | refine Elem1.mk fun e_ he_ => ?_); refine g0_ ?_))
    refine (hco).use ?_
    (refine gdj_ ?_; repeat ((first | refine n1_ fun b_ => ?_ | refine n2_ fun b_ => ?_ | refine Nat1.mk fun q_ hq_ => ?_ | refine em_ fun x_ hx_ => ?_ | refine Elem1.mk fun e_ he_ => ?_); refine gdj_ ?_))
    refine CondC.part ?_
    (refine gdj_ ?_; repeat ((first | refine n1_ fun b_ => ?_ | refine n2_ fun b_ => ?_ | refine Nat1.mk fun q_ hq_ => ?_ | refine em_ fun x_ hx_ => ?_ | refine Elem1.mk fun e_ he_ => ?_); refine gdj_ ?_))
    rename_i bc bX
    obtain ⟨bW, rfl⟩ : ∃ bW, bW = b_ := ⟨_, rfl⟩
    first | refine' joinT (α := Unit) (fun u => []) [(0, _), (4, _), (7, _), (8, _), (9, _), (10, _), (12, _)] (fun u => [⟨bW, .row 5 [encCopying D] 0⟩, ⟨bX, .row 5 [encCopying D] 0⟩, ⟨bc, .row 5 [encCopying c] 0⟩]) (fun u => True) ?_ ?_ | refine' joinF (α := Unit) (fun u => []) [(0, _), (4, _), (7, _), (8, _), (9, _), (10, _), (12, _)] (fun u => [⟨bW, .row 5 [encCopying D] 0⟩, ⟨bX, .row 5 [encCopying D] 0⟩, ⟨bc, .row 5 [encCopying c] 0⟩]) (fun u => True) ?_ ?_
    · subst hD
      cases on
      · (refine g1_ ?_; repeat ((first | refine n1_ fun b_ => ?_ | refine n2_ fun b_ => ?_ | refine Nat1.mk fun q_ hq_ => ?_ | refine em_ fun x_ hx_ => ?_ | refine Elem1.mk fun e_ he_ => ?_); refine g1_ ?_))
        refine jx_ () ?_
        trivial
      · (refine g1_ ?_; repeat ((first | refine n1_ fun b_ => ?_ | refine n2_ fun b_ => ?_ | refine Nat1.mk fun q_ hq_ => ?_ | refine em_ fun x_ hx_ => ?_ | refine Elem1.mk fun e_ he_ => ?_); refine g1_ ?_))
        refine jx_ () ?_
        trivial
    rintro - -
    (refine g1_ ?_; repeat ((first | refine n1_ fun b_ => ?_ | refine n2_ fun b_ => ?_ | refine Nat1.mk fun q_ hq_ => ?_ | refine em_ fun x_ hx_ => ?_ | refine Elem1.mk fun e_ he_ => ?_); refine g1_ ?_))
    refine ⟨_, neq_copying D D hDo hDo _ _, ?_⟩
    rw [decide_eq_true rfl, Bool.not_true]
    (refine g1_ ?_; repeat ((first | refine n1_ fun b_ => ?_ | refine n2_ fun b_ => ?_ | refine Nat1.mk fun q_ hq_ => ?_ | refine em_ fun x_ hx_ => ?_ | refine Elem1.mk fun e_ he_ => ?_); refine g1_ ?_))
    by_cases hon : c.on = false
    · rw [if_pos hon]
      (refine g1_ ?_; repeat ((first | refine n1_ fun b_ => ?_ | refine n2_ fun b_ => ?_ | refine Nat1.mk fun q_ hq_ => ?_ | refine em_ fun x_ hx_ => ?_ | refine Elem1.mk fun e_ he_ => ?_); refine g1_ ?_))
      exact Frz.of_eq (by simp)
    · rw [if_neg hon]
      rw [Bool.not_eq_false] at hon
      obtain ⟨⟨cx, cy⟩, ⟨fx, fy⟩, con⟩ := c
      dsimp only at g3 g4 hon ⊢
      obtain ⟨⟨ax, ay⟩, ⟨bx, bz⟩, hE⟩ : ∃ A B, orderM ⟨fx, fy⟩ ⟨cx, cy⟩ = (A, B) := ⟨_, _, rfl⟩
      obtain ⟨o1, o2, o3⟩ := order_ok hE g3 g4
      rw [hE]
      dsimp only
      obtain ⟨AY, rfl⟩ := Int.eq_ofNat_of_zero_le o1.1
      obtain ⟨BY, rfl⟩ := Int.eq_ofNat_of_zero_le (show 0 ≤ bz by omega)
      subst hon
      obtain ⟨E, hEE⟩ : ∃ E, E = (if 4000 < (textT ls ⟨ax, AY⟩ ⟨bx, BY⟩).length then (([], 10) : List UInt8 × Int) else (textT ls ⟨ax, AY⟩ ⟨bx, BY⟩, 0)) := ⟨_, rfl⟩
      rw [← hEE]
      obtain ⟨s0, f0⟩ := E
      dsimp only
      (refine g1_ ?_; repeat ((first | refine n1_ fun b_ => ?_ | refine n2_ fun b_ => ?_ | refine Nat1.mk fun q_ hq_ => ?_ | refine em_ fun x_ hx_ => ?_ | refine Elem1.mk fun e_ he_ => ?_); refine g1_ ?_))
      refine Draws6.three ⟨4, _, _, _, _, _, _, _, by decide +kernel, rfl, rfl, rfl, allocMark W rfl rfl, allocMark W rfl rfl, ?_⟩
      (refine g0_ ?_; repeat ((first | refine n1_ fun b_ => ?_ | refine n2_ fun b_ => ?_ | refine Nat1.mk fun q_ hq_ => ?_ | refine em_ fun x_ hx_ => ?_ | refine Elem1.mk fun e_ he_ => ?_); refine g0_ ?_))
      intro b7 b8
      (refine gj_ ?_; repeat ((first | refine n1_ fun b_ => ?_ | refine n2_ fun b_ => ?_ | refine Nat1.mk fun q_ hq_ => ?_ | refine em_ fun x_ hx_ => ?_ | refine Elem1.mk fun e_ he_ => ?_); refine gj_ ?_))
      first | refine' joinT (α := Unit) (fun u => []) [(0, _), (9, _), (10, _), (13, _), (14, _)] (fun u => [⟨b8, .row 2 [.agg [.int .i64 bx, .int .i64 BY]] 0⟩, ⟨b7, .row 2 [.agg [.int .i64 ax, .int .i64 AY]] 0⟩]) (fun u => True) ?_ ?_ | refine' joinF (α := Unit) (fun u => []) [(0, _), (9, _), (10, _), (13, _), (14, _)] (fun u => [⟨b8, .row 2 [.agg [.int .i64 bx, .int .i64 BY]] 0⟩, ⟨b7, .row 2 [.agg [.int .i64 ax, .int .i64 AY]] 0⟩]) (fun u => True) ?_ ?_
      · by_cases ho : cy < fy ∨ (cy = fy ∧ cx < fx)
        · unfold orderM at hE
          dsimp only at hE
          rw [if_pos ho] at hE
          cases hE
          (refine g1_ ?_; repeat ((first | refine n1_ fun b_ => ?_ | refine n2_ fun b_ => ?_ | refine Nat1.mk fun q_ hq_ => ?_ | refine em_ fun x_ hx_ => ?_ | refine Elem1.mk fun e_ he_ => ?_); refine g1_ ?_))
          refine jx_ () ?_
          trivial
        · unfold orderM at hE
          dsimp only at hE
          rw [if_neg ho] at hE
          cases hE
          (refine g1_ ?_; repeat ((first | refine n1_ fun b_ => ?_ | refine n2_ fun b_ => ?_ | refine Nat1.mk fun q_ hq_ => ?_ | refine em_ fun x_ hx_ => ?_ | refine Elem1.mk fun e_ he_ => ?_); refine g1_ ?_))
          refine jx_ () ?_
          trivial
      rintro - -
      (refine g0_ ?_; repeat ((first | refine n1_ fun b_ => ?_ | refine n2_ fun b_ => ?_ | refine Nat1.mk fun q_ hq_ => ?_ | refine em_ fun x_ hx_ => ?_ | refine Elem1.mk fun e_ he_ => ?_); refine g0_ ?_))
      refine' loopI (α := Nat × Nat × (List PV)) (fun (y, bo, rows) => [(16, .int .i64 y), (15, accV bo 1 rows)]) [(0, _), (9, _), (10, _), (13, _), (14, _)] (fun (y, bo, rows) => accM bo 1 rows ++ [⟨b8, .row 2 [.agg [.int .i64 bx, .int .i64 BY]] 0⟩, ⟨b7, .row 2 [.agg [.int .i64 ax, .int .i64 AY]] 0⟩]) (fun (y, bo, rows) => (AY ≤ y ∧ y ≤ BY + 1 ∧ rows.length ≤ y) ∧ rows ++ (rowsT ls ⟨ax, AY⟩ ⟨bx, BY⟩ y (BY + 1 - y)).map PV.str = (rowsT ls ⟨ax, AY⟩ ⟨bx, BY⟩ AY (BY + 1 - AY)).map PV.str) (fun (y, bo, rows) => BY + 1 - y) (AY, 0, []) ?_ ?_
      · exact ⟨⟨by omega, by omega, by simp⟩, rfl⟩
      rintro ⟨y, bo, rows⟩ ⟨hy, hr⟩
      rcases rows with _ | ⟨r0, rows⟩
      · (refine g0_ ?_; repeat ((first | refine n1_ fun b_ => ?_ | refine n2_ fun b_ => ?_ | refine Nat1.mk fun q_ hq_ => ?_ | refine em_ fun x_ hx_ => ?_ | refine Elem1.mk fun e_ he_ => ?_); refine g0_ ?_))
        refine brec ?_; intro c_ h2; (try rw [h2]); cases c_ <;> replace h2 := nm_ h2
        · obtain rfl : y = BY + 1 := by omega
          rw [Nat.sub_self] at hr
          have hjl := join_len 16000 _ (rowsT_le g2 ⟨ax, AY⟩ ⟨bx, BY⟩ AY (BY + 1 - AY))
          rw [rowsT_len] at hjl
          (refine g0_ ?_; repeat ((first | refine n1_ fun b_ => ?_ | refine n2_ fun b_ => ?_ | refine Nat1.mk fun q_ hq_ => ?_ | refine em_ fun x_ hx_ => ?_ | refine Elem1.mk fun e_ he_ => ?_); refine g0_ ?_))
          refine (join_ok W (rowsT ls ⟨ax, AY⟩ ⟨bx, BY⟩ AY (BY + 1 - AY)) [10] (by rw [rowsT_len]; omega) (by omega)).borrow rfl rfl (fun j hj => ?_) ?_
          · match j, hj with
            | 0, _ =>
              show Frz _ _ (.sl 1 ((rowsT ls ⟨ax, AY⟩ ⟨bx, BY⟩ AY (BY + 1 - AY)).map PV.str))
              rw [← hr, show rowsT ls ⟨ax, AY⟩ ⟨bx, BY⟩ (BY + 1) 0 = [] from rfl, List.map_nil, List.append_nil]
              exact .nils _
            | 1, _ => exact .refl _
          have hT0 : Lib.join (rowsT ls ⟨ax, AY⟩ ⟨bx, BY⟩ AY (BY + 1 - AY)) [10] = textT ls ⟨ax, AY⟩ ⟨bx, BY⟩ := rfl
          rw [hT0]
          by_cases hlong : 4000 < (textT ls ⟨ax, AY⟩ ⟨bx, BY⟩).length
          · rw [if_pos hlong] at hEE
            cases hEE
            (refine g1_ ?_; repeat ((first | refine n1_ fun b_ => ?_ | refine n2_ fun b_ => ?_ | refine Nat1.mk fun q_ hq_ => ?_ | refine em_ fun x_ hx_ => ?_ | refine Elem1.mk fun e_ he_ => ?_); refine g1_ ?_))
            exact Frz.of_eq (by simp)
          · rw [if_neg hlong] at hEE
            cases hEE
            (refine g1_ ?_; repeat ((first | refine n1_ fun b_ => ?_ | refine n2_ fun b_ => ?_ | refine Nat1.mk fun q_ hq_ => ?_ | refine em_ fun x_ hx_ => ?_ | refine Elem1.mk fun e_ he_ => ?_); refine g1_ ?_))
            exact Frz.of_eq (by simp)
        · obtain ⟨s, hs⟩ : ∃ s, ls[y]? = some s := ⟨ls[y]'(by omega), List.getElem?_eq_getElem _⟩
          have hsb := g2 s (List.mem_of_getElem? hs)
          have hsl := spotsL_le s
          have hlm2 : ((spotsL s).map encSpot).length = (spotsL s).length := List.length_map _
          (refine g0_ ?_; repeat ((first | refine n1_ fun b_ => ?_ | refine n2_ fun b_ => ?_ | refine Nat1.mk fun q_ hq_ => ?_ | refine em_ fun x_ hx_ => ?_ | refine Elem1.mk fun e_ he_ => ?_); refine g0_ ?_))
          refine (spots_ok W s (by omega)).use ?_; (refine g0_ ?_; repeat ((first | refine n1_ fun b_ => ?_ | refine n2_ fun b_ => ?_ | refine Nat1.mk fun q_ hq_ => ?_ | refine em_ fun x_ hx_ => ?_ | refine Elem1.mk fun e_ he_ => ?_); refine g0_ ?_))
          rw [show spotsRs 0 (runes s) = spotsL s from rfl]
          refine' loopI (α := Nat × (List UInt8)) (fun (k, t) => [(126, .int .i64 k), (17, .str t)]) [(0, _), (9, _), (10, _), (13, _), (14, _), (15, _), (16, _), (124, _), (125, _)] (fun (k, t) => [] ++ [⟨b8, .row 2 [.agg [.int .i64 bx, .int .i64 BY]] 0⟩, ⟨b7, .row 2 [.agg [.int .i64 ax, .int .i64 AY]] 0⟩]) (fun (k, t) => k ≤ (spotsL s).length ∧ t ++ takeB (fromF (spotsL s) (decide ((y : Int) = AY)) ax) (toF (spotsL s) (decide ((y : Int) = BY)) bx) k ((spotsL s).drop k) = lineT ⟨ax, AY⟩ ⟨bx, BY⟩ s y ∧ t.length ≤ 4 * k) (fun (k, t) => (spotsL s).length - k) (0, []) ?_ ?_
          · exact ⟨Nat.zero_le _, rfl, by simp⟩
          rintro ⟨k, t⟩ ⟨hk, ht, htl⟩
          (refine g0_ ?_; repeat ((first | refine n1_ fun b_ => ?_ | refine n2_ fun b_ => ?_ | refine Nat1.mk fun q_ hq_ => ?_ | refine em_ fun x_ hx_ => ?_ | refine Elem1.mk fun e_ he_ => ?_); refine g0_ ?_))
          refine brec ?_; intro c_ h3; (try rw [h3]); cases c_ <;> replace h3 := nm_ h3
          · rw [hlm2] at h3
            obtain rfl : k = (spotsL s).length := by omega
            rw [List.drop_length, takeB, List.append_nil] at ht
            have hsd : ls.getD y [] = s := by rw [List.getD_eq_getElem?_getD, hs]; rfl
            rw [show BY + 1 - y = (BY - y) + 1 by omega, rowsT_succ, hsd] at hr
            rw [ht]
            (refine g0_ ?_; repeat ((first | refine n1_ fun b_ => ?_ | refine n2_ fun b_ => ?_ | refine Nat1.mk fun q_ hq_ => ?_ | refine em_ fun x_ hx_ => ?_ | refine Elem1.mk fun e_ he_ => ?_); refine g0_ ?_))
            refine .inl ?_
            (refine g0_ ?_; repeat ((first | refine n1_ fun b_ => ?_ | refine n2_ fun b_ => ?_ | refine Nat1.mk fun q_ hq_ => ?_ | refine em_ fun x_ hx_ => ?_ | refine Elem1.mk fun e_ he_ => ?_); refine g0_ ?_))
            refine nx_ (y + 1, b_, [] ++ [.str (lineT ⟨ax, AY⟩ ⟨bx, BY⟩ s y)]) ?_ ?_
            · exact ⟨⟨by omega, by omega, by simp only [List.length_append, List.length_cons, List.length_nil] at hy ⊢; omega⟩, by rw [← hr, show BY + 1 - (y + 1) = BY - y by omega]; simp⟩
            · ((try dsimp only); (try simp only [List.length_drop, List.length_take, List.length_append, List.length_cons, List.length_nil, List.length_map] at *); omega)
          · rw [hlm2] at h3
            obtain ⟨p, hp⟩ : ∃ p, (spotsL s)[k]? = some p := ⟨(spotsL s)[k]'(by omega), List.getElem?_eq_getElem _⟩
            have hpr := spots_range s p (List.mem_of_getElem? hp)
            have hpx := spots_x s p (List.mem_of_getElem? hp)
            have hpw := widthL_le p.1
            have hki := keep_iff (a := ⟨ax, AY⟩) (b := ⟨bx, BY⟩) (y := y) (by dsimp only; omega) (by dsimp only; omega) hp
            dsimp only at hki
            rw [drop_cons_of hp, takeB] at ht
            have he := enc_le p.1
            have e8 := enc_utf8 p.1
            generalize Lib.encodeRune p.1 = en at *
            subst e8
            (refine g0_ ?_; repeat ((first | refine n1_ fun b_ => ?_ | refine n2_ fun b_ => ?_ | refine Nat1.mk fun q_ hq_ => ?_ | refine em_ fun x_ hx_ => ?_ | refine Elem1.mk fun e_ he_ => ?_); refine g0_ ?_))
            refine Draws6.old (head_ ?_)
            by_cases hft : fromF (spotsL s) (decide ((y : Int) = AY)) ax ≤ k ∧ (k : Int) ≤ toF (spotsL s) (decide ((y : Int) = BY)) bx
            · rw [if_pos hft] at ht
              obtain ⟨k1, k2⟩ := hki.1 hft
              by_cases c1 : (AY : Int) < y
              · by_cases c2 : (y : Int) < BY
                · (refine g1_ ?_; repeat ((first | refine n1_ fun b_ => ?_ | refine n2_ fun b_ => ?_ | refine Nat1.mk fun q_ hq_ => ?_ | refine em_ fun x_ hx_ => ?_ | refine Elem1.mk fun e_ he_ => ?_); refine g1_ ?_))
                  refine nx_ (k + 1, t ++ (Utf8.encode p.1).data.toList) ?_ ?_
                  · exact ⟨by omega, by rw [← ht, List.append_assoc], by rw [List.length_append]; omega⟩
                  · ((try dsimp only); (try simp only [List.length_drop, List.length_take, List.length_append, List.length_cons, List.length_nil, List.length_map] at *); omega)
                · have k4 := k2.resolve_left c2
                  (refine g1_ ?_; repeat ((first | refine n1_ fun b_ => ?_ | refine n2_ fun b_ => ?_ | refine Nat1.mk fun q_ hq_ => ?_ | refine em_ fun x_ hx_ => ?_ | refine Elem1.mk fun e_ he_ => ?_); refine g1_ ?_))
                  refine nx_ (k + 1, t ++ (Utf8.encode p.1).data.toList) ?_ ?_
                  · exact ⟨by omega, by rw [← ht, List.append_assoc], by rw [List.length_append]; omega⟩
                  · ((try dsimp only); (try simp only [List.length_drop, List.length_take, List.length_append, List.length_cons, List.length_nil, List.length_map] at *); omega)
              · have k3 := k1.resolve_left c1
                (refine g1_ ?_; repeat ((first | refine n1_ fun b_ => ?_ | refine n2_ fun b_ => ?_ | refine Nat1.mk fun q_ hq_ => ?_ | refine em_ fun x_ hx_ => ?_ | refine Elem1.mk fun e_ he_ => ?_); refine g1_ ?_))
                refine ⟨_, widthOf_ok W _, ?_⟩; (refine g0_ ?_; repeat ((first | refine n1_ fun b_ => ?_ | refine n2_ fun b_ => ?_ | refine Nat1.mk fun q_ hq_ => ?_ | refine em_ fun x_ hx_ => ?_ | refine Elem1.mk fun e_ he_ => ?_); refine g0_ ?_))
                rw [← width_eq]
                by_cases c2 : (y : Int) < BY
                · (refine g1_ ?_; repeat ((first | refine n1_ fun b_ => ?_ | refine n2_ fun b_ => ?_ | refine Nat1.mk fun q_ hq_ => ?_ | refine em_ fun x_ hx_ => ?_ | refine Elem1.mk fun e_ he_ => ?_); refine g1_ ?_))
                  refine nx_ (k + 1, t ++ (Utf8.encode p.1).data.toList) ?_ ?_
                  · exact ⟨by omega, by rw [← ht, List.append_assoc], by rw [List.length_append]; omega⟩
                  · ((try dsimp only); (try simp only [List.length_drop, List.length_take, List.length_append, List.length_cons, List.length_nil, List.length_map] at *); omega)
                · have k4 := k2.resolve_left c2
                  (refine g1_ ?_; repeat ((first | refine n1_ fun b_ => ?_ | refine n2_ fun b_ => ?_ | refine Nat1.mk fun q_ hq_ => ?_ | refine em_ fun x_ hx_ => ?_ | refine Elem1.mk fun e_ he_ => ?_); refine g1_ ?_))
                  refine nx_ (k + 1, t ++ (Utf8.encode p.1).data.toList) ?_ ?_
                  · exact ⟨by omega, by rw [← ht, List.append_assoc], by rw [List.length_append]; omega⟩
                  · ((try dsimp only); (try simp only [List.length_drop, List.length_take, List.length_append, List.length_cons, List.length_nil, List.length_map] at *); omega)
            · rw [if_neg hft, List.nil_append] at ht
              have hn := fun h => hft (hki.2 h)
              by_cases c1 : (AY : Int) < y
              · have c2 : ¬ (y : Int) < BY := fun h => hn ⟨.inl c1, .inl h⟩
                have c3 : ¬ (p.2 : Int) ≤ bx := fun h => hn ⟨.inl c1, .inr h⟩
                (refine g1_ ?_; repeat ((first | refine n1_ fun b_ => ?_ | refine n2_ fun b_ => ?_ | refine Nat1.mk fun q_ hq_ => ?_ | refine em_ fun x_ hx_ => ?_ | refine Elem1.mk fun e_ he_ => ?_); refine g1_ ?_))
                refine nx_ (k + 1, t) ?_ ?_
                · exact ⟨by omega, ht, by omega⟩
                · ((try dsimp only); (try simp only [List.length_drop, List.length_take, List.length_append, List.length_cons, List.length_nil, List.length_map] at *); omega)
              · by_cases c4 : ax ≤ (p.2 : Int) + widthL p.1 - 1
                · have c2 : ¬ (y : Int) < BY := fun h => hn ⟨.inr c4, .inl h⟩
                  have c3 : ¬ (p.2 : Int) ≤ bx := fun h => hn ⟨.inr c4, .inr h⟩
                  (refine g1_ ?_; repeat ((first | refine n1_ fun b_ => ?_ | refine n2_ fun b_ => ?_ | refine Nat1.mk fun q_ hq_ => ?_ | refine em_ fun x_ hx_ => ?_ | refine Elem1.mk fun e_ he_ => ?_); refine g1_ ?_))
                  refine ⟨_, widthOf_ok W _, ?_⟩; (refine g0_ ?_; repeat ((first | refine n1_ fun b_ => ?_ | refine n2_ fun b_ => ?_ | refine Nat1.mk fun q_ hq_ => ?_ | refine em_ fun x_ hx_ => ?_ | refine Elem1.mk fun e_ he_ => ?_); refine g0_ ?_))
                  rw [← width_eq]
                  (refine g1_ ?_; repeat ((first | refine n1_ fun b_ => ?_ | refine n2_ fun b_ => ?_ | refine Nat1.mk fun q_ hq_ => ?_ | refine em_ fun x_ hx_ => ?_ | refine Elem1.mk fun e_ he_ => ?_); refine g1_ ?_))
                  refine nx_ (k + 1, t) ?_ ?_
                  · exact ⟨by omega, ht, by omega⟩
                  · ((try dsimp only); (try simp only [List.length_drop, List.length_take, List.length_append, List.length_cons, List.length_nil, List.length_map] at *); omega)
                · (refine g1_ ?_; repeat ((first | refine n1_ fun b_ => ?_ | refine n2_ fun b_ => ?_ | refine Nat1.mk fun q_ hq_ => ?_ | refine em_ fun x_ hx_ => ?_ | refine Elem1.mk fun e_ he_ => ?_); refine g1_ ?_))
                  refine ⟨_, widthOf_ok W _, ?_⟩; (refine g0_ ?_; repeat ((first | refine n1_ fun b_ => ?_ | refine n2_ fun b_ => ?_ | refine Nat1.mk fun q_ hq_ => ?_ | refine em_ fun x_ hx_ => ?_ | refine Elem1.mk fun e_ he_ => ?_); refine g0_ ?_))
                  rw [← width_eq]
                  (refine g1_ ?_; repeat ((first | refine n1_ fun b_ => ?_ | refine n2_ fun b_ => ?_ | refine Nat1.mk fun q_ hq_ => ?_ | refine em_ fun x_ hx_ => ?_ | refine Elem1.mk fun e_ he_ => ?_); refine g1_ ?_))
                  refine nx_ (k + 1, t) ?_ ?_
                  · exact ⟨by omega, ht, by omega⟩
                  · ((try dsimp only); (try simp only [List.length_drop, List.length_take, List.length_append, List.length_cons, List.length_nil, List.length_map] at *); omega)
      · simp only [List.length_cons] at hy
        (refine g0_ ?_; repeat ((first | refine n1_ fun b_ => ?_ | refine n2_ fun b_ => ?_ | refine Nat1.mk fun q_ hq_ => ?_ | refine em_ fun x_ hx_ => ?_ | refine Elem1.mk fun e_ he_ => ?_); refine g0_ ?_))
        refine brec ?_; intro c_ h2; (try rw [h2]); cases c_ <;> replace h2 := nm_ h2
        · obtain rfl : y = BY + 1 := by omega
          rw [Nat.sub_self] at hr
          have hjl := join_len 16000 _ (rowsT_le g2 ⟨ax, AY⟩ ⟨bx, BY⟩ AY (BY + 1 - AY))
          rw [rowsT_len] at hjl
          (refine g0_ ?_; repeat ((first | refine n1_ fun b_ => ?_ | refine n2_ fun b_ => ?_ | refine Nat1.mk fun q_ hq_ => ?_ | refine em_ fun x_ hx_ => ?_ | refine Elem1.mk fun e_ he_ => ?_); refine g0_ ?_))
          refine (join_ok W (rowsT ls ⟨ax, AY⟩ ⟨bx, BY⟩ AY (BY + 1 - AY)) [10] (by rw [rowsT_len]; omega) (by omega)).borrow rfl rfl (fun j hj => ?_) ?_
          · match j, hj with
            | 0, _ =>
              show Frz _ _ (.sl 1 ((rowsT ls ⟨ax, AY⟩ ⟨bx, BY⟩ AY (BY + 1 - AY)).map PV.str))
              rw [← hr, show rowsT ls ⟨ax, AY⟩ ⟨bx, BY⟩ (BY + 1) 0 = [] from rfl, List.map_nil, List.append_nil]
              exact frz_row (.here _ _ _) _ (by simp)
            | 1, _ => exact .refl _
          have hT0 : Lib.join (rowsT ls ⟨ax, AY⟩ ⟨bx, BY⟩ AY (BY + 1 - AY)) [10] = textT ls ⟨ax, AY⟩ ⟨bx, BY⟩ := rfl
          rw [hT0]
          by_cases hlong : 4000 < (textT ls ⟨ax, AY⟩ ⟨bx, BY⟩).length
          · rw [if_pos hlong] at hEE
            cases hEE
            (refine g1_ ?_; repeat ((first | refine n1_ fun b_ => ?_ | refine n2_ fun b_ => ?_ | refine Nat1.mk fun q_ hq_ => ?_ | refine em_ fun x_ hx_ => ?_ | refine Elem1.mk fun e_ he_ => ?_); refine g1_ ?_))
            exact Frz.of_eq (by simp)
          · rw [if_neg hlong] at hEE
            cases hEE
            (refine g1_ ?_; repeat ((first | refine n1_ fun b_ => ?_ | refine n2_ fun b_ => ?_ | refine Nat1.mk fun q_ hq_ => ?_ | refine em_ fun x_ hx_ => ?_ | refine Elem1.mk fun e_ he_ => ?_); refine g1_ ?_))
            exact Frz.of_eq (by simp)
        · obtain ⟨s, hs⟩ : ∃ s, ls[y]? = some s := ⟨ls[y]'(by omega), List.getElem?_eq_getElem _⟩
          have hsb := g2 s (List.mem_of_getElem? hs)
          have hsl := spotsL_le s
          have hlm2 : ((spotsL s).map encSpot).length = (spotsL s).length := List.length_map _
          (refine g0_ ?_; repeat ((first | refine n1_ fun b_ => ?_ | refine n2_ fun b_ => ?_ | refine Nat1.mk fun q_ hq_ => ?_ | refine em_ fun x_ hx_ => ?_ | refine Elem1.mk fun e_ he_ => ?_); refine g0_ ?_))
          refine (spots_ok W s (by omega)).use ?_; (refine g0_ ?_; repeat ((first | refine n1_ fun b_ => ?_ | refine n2_ fun b_ => ?_ | refine Nat1.mk fun q_ hq_ => ?_ | refine em_ fun x_ hx_ => ?_ | refine Elem1.mk fun e_ he_ => ?_); refine g0_ ?_))
          rw [show spotsRs 0 (runes s) = spotsL s from rfl]
          refine' loopI (α := Nat × (List UInt8)) (fun (k, t) => [(126, .int .i64 k), (17, .str t)]) [(0, _), (9, _), (10, _), (13, _), (14, _), (15, _), (16, _), (124, _), (125, _)] (fun (k, t) => [⟨bo, .row 1 (r0 :: rows) 0⟩] ++ [⟨b8, .row 2 [.agg [.int .i64 bx, .int .i64 BY]] 0⟩, ⟨b7, .row 2 [.agg [.int .i64 ax, .int .i64 AY]] 0⟩]) (fun (k, t) => k ≤ (spotsL s).length ∧ t ++ takeB (fromF (spotsL s) (decide ((y : Int) = AY)) ax) (toF (spotsL s) (decide ((y : Int) = BY)) bx) k ((spotsL s).drop k) = lineT ⟨ax, AY⟩ ⟨bx, BY⟩ s y ∧ t.length ≤ 4 * k) (fun (k, t) => (spotsL s).length - k) (0, []) ?_ ?_
          · exact ⟨Nat.zero_le _, rfl, by simp⟩
          rintro ⟨k, t⟩ ⟨hk, ht, htl⟩
          (refine g0_ ?_; repeat ((first | refine n1_ fun b_ => ?_ | refine n2_ fun b_ => ?_ | refine Nat1.mk fun q_ hq_ => ?_ | refine em_ fun x_ hx_ => ?_ | refine Elem1.mk fun e_ he_ => ?_); refine g0_ ?_))
          refine brec ?_; intro c_ h3; (try rw [h3]); cases c_ <;> replace h3 := nm_ h3
          · rw [hlm2] at h3
            obtain rfl : k = (spotsL s).length := by omega
            rw [List.drop_length, takeB, List.append_nil] at ht
            have hsd : ls.getD y [] = s := by rw [List.getD_eq_getElem?_getD, hs]; rfl
            rw [show BY + 1 - y = (BY - y) + 1 by omega, rowsT_succ, hsd] at hr
            rw [ht]
            (refine g0_ ?_; repeat ((first | refine n1_ fun b_ => ?_ | refine n2_ fun b_ => ?_ | refine Nat1.mk fun q_ hq_ => ?_ | refine em_ fun x_ hx_ => ?_ | refine Elem1.mk fun e_ he_ => ?_); refine g0_ ?_))
            refine .inl ?_
            (refine g0_ ?_; repeat ((first | refine n1_ fun b_ => ?_ | refine n2_ fun b_ => ?_ | refine Nat1.mk fun q_ hq_ => ?_ | refine em_ fun x_ hx_ => ?_ | refine Elem1.mk fun e_ he_ => ?_); refine g0_ ?_))
            refine nx_ (y + 1, b_, (r0 :: rows) ++ [.str (lineT ⟨ax, AY⟩ ⟨bx, BY⟩ s y)]) ?_ ?_
            · exact ⟨⟨by omega, by omega, by simp only [List.length_append, List.length_cons, List.length_nil] at hy ⊢; omega⟩, by rw [← hr, show BY + 1 - (y + 1) = BY - y by omega]; simp⟩
            · ((try dsimp only); (try simp only [List.length_drop, List.length_take, List.length_append, List.length_cons, List.length_nil, List.length_map] at *); omega)
          · rw [hlm2] at h3
            obtain ⟨p, hp⟩ : ∃ p, (spotsL s)[k]? = some p := ⟨(spotsL s)[k]'(by omega), List.getElem?_eq_getElem _⟩
            have hpr := spots_range s p (List.mem_of_getElem? hp)
            have hpx := spots_x s p (List.mem_of_getElem? hp)
            have hpw := widthL_le p.1
            have hki := keep_iff (a := ⟨ax, AY⟩) (b := ⟨bx, BY⟩) (y := y) (by dsimp only; omega) (by dsimp only; omega) hp
            dsimp only at hki
            rw [drop_cons_of hp, takeB] at ht
            have he := enc_le p.1
            have e8 := enc_utf8 p.1
            generalize Lib.encodeRune p.1 = en at *
            subst e8
            (refine g0_ ?_; repeat ((first | refine n1_ fun b_ => ?_ | refine n2_ fun b_ => ?_ | refine Nat1.mk fun q_ hq_ => ?_ | refine em_ fun x_ hx_ => ?_ | refine Elem1.mk fun e_ he_ => ?_); refine g0_ ?_))
            refine Draws6.old (head_ ?_)
            by_cases hft : fromF (spotsL s) (decide ((y : Int) = AY)) ax ≤ k ∧ (k : Int) ≤ toF (spotsL s) (decide ((y : Int) = BY)) bx
            · rw [if_pos hft] at ht
              obtain ⟨k1, k2⟩ := hki.1 hft
              by_cases c1 : (AY : Int) < y
              · by_cases c2 : (y : Int) < BY
                · (refine g1_ ?_; repeat ((first | refine n1_ fun b_ => ?_ | refine n2_ fun b_ => ?_ | refine Nat1.mk fun q_ hq_ => ?_ | refine em_ fun x_ hx_ => ?_ | refine Elem1.mk fun e_ he_ => ?_); refine g1_ ?_))
                  refine nx_ (k + 1, t ++ (Utf8.encode p.1).data.toList) ?_ ?_
                  · exact ⟨by omega, by rw [← ht, List.append_assoc], by rw [List.length_append]; omega⟩
                  · ((try dsimp only); (try simp only [List.length_drop, List.length_take, List.length_append, List.length_cons, List.length_nil, List.length_map] at *); omega)
                · have k4 := k2.resolve_left c2
                  (refine g1_ ?_; repeat ((first | refine n1_ fun b_ => ?_ | refine n2_ fun b_ => ?_ | refine Nat1.mk fun q_ hq_ => ?_ | refine em_ fun x_ hx_ => ?_ | refine Elem1.mk fun e_ he_ => ?_); refine g1_ ?_))
                  refine nx_ (k + 1, t ++ (Utf8.encode p.1).data.toList) ?_ ?_
                  · exact ⟨by omega, by rw [← ht, List.append_assoc], by rw [List.length_append]; omega⟩
                  · ((try dsimp only); (try simp only [List.length_drop, List.length_take, List.length_append, List.length_cons, List.length_nil, List.length_map] at *); omega)
              · have k3 := k1.resolve_left c1
                (refine g1_ ?_; repeat ((first | refine n1_ fun b_ => ?_ | refine n2_ fun b_ => ?_ | refine Nat1.mk fun q_ hq_ => ?_ | refine em_ fun x_ hx_ => ?_ | refine Elem1.mk fun e_ he_ => ?_); refine g1_ ?_))
                refine ⟨_, widthOf_ok W _, ?_⟩; (refine g0_ ?_; repeat ((first | refine n1_ fun b_ => ?_ | refine n2_ fun b_ => ?_ | refine Nat1.mk fun q_ hq_ => ?_ | refine em_ fun x_ hx_ => ?_ | refine Elem1.mk fun e_ he_ => ?_); refine g0_ ?_))
                rw [← width_eq]
                by_cases c2 : (y : Int) < BY
                · (refine g1_ ?_; repeat ((first | refine n1_ fun b_ => ?_ | refine n2_ fun b_ => ?_ | refine Nat1.mk fun q_ hq_ => ?_ | refine em_ fun x_ hx_ => ?_ | refine Elem1.mk fun e_ he_ => ?_); refine g1_ ?_))
                  refine nx_ (k + 1, t ++ (Utf8.encode p.1).data.toList) ?_ ?_
                  · exact ⟨by omega, by rw [← ht, List.append_assoc], by rw [List.length_append]; omega⟩
                  · ((try dsimp only); (try simp only [List.length_drop, List.length_take, List.length_append, List.length_cons, List.length_nil, List.length_map] at *); omega)
                · have k4 := k2.resolve_left c2
                  (refine g1_ ?_; repeat ((first | refine n1_ fun b_ => ?_ | refine n2_ fun b_ => ?_ | refine Nat1.mk fun q_ hq_ => ?_ | refine em_ fun x_ hx_ => ?_ | refine Elem1.mk fun e_ he_ => ?_); refine g1_ ?_))
                  refine nx_ (k + 1, t ++ (Utf8.encode p.1).data.toList) ?_ ?_
                  · exact ⟨by omega, by rw [← ht, List.append_assoc], by rw [List.length_append]; omega⟩
                  · ((try dsimp only); (try simp only [List.length_drop, List.length_take, List.length_append, List.length_cons, List.length_nil, List.length_map] at *); omega)
            · rw [if_neg hft, List.nil_append] at ht
              have hn := fun h => hft (hki.2 h)
              by_cases c1 : (AY : Int) < y
              · have c2 : ¬ (y : Int) < BY := fun h => hn ⟨.inl c1, .inl h⟩
                have c3 : ¬ (p.2 : Int) ≤ bx := fun h => hn ⟨.inl c1, .inr h⟩
                (refine g1_ ?_; repeat ((first | refine n1_ fun b_ => ?_ | refine n2_ fun b_ => ?_ | refine Nat1.mk fun q_ hq_ => ?_ | refine em_ fun x_ hx_ => ?_ | refine Elem1.mk fun e_ he_ => ?_); refine g1_ ?_))
                refine nx_ (k + 1, t) ?_ ?_
                · exact ⟨by omega, ht, by omega⟩
                · ((try dsimp only); (try simp only [List.length_drop, List.length_take, List.length_append, List.length_cons, List.length_nil, List.length_map] at *); omega)
              · by_cases c4 : ax ≤ (p.2 : Int) + widthL p.1 - 1
                · have c2 : ¬ (y : Int) < BY := fun h => hn ⟨.inr c4, .inl h⟩
                  have c3 : ¬ (p.2 : Int) ≤ bx := fun h => hn ⟨.inr c4, .inr h⟩
                  (refine g1_ ?_; repeat ((first | refine n1_ fun b_ => ?_ | refine n2_ fun b_ => ?_ | refine Nat1.mk fun q_ hq_ => ?_ | refine em_ fun x_ hx_ => ?_ | refine Elem1.mk fun e_ he_ => ?_); refine g1_ ?_))
                  refine ⟨_, widthOf_ok W _, ?_⟩; (refine g0_ ?_; repeat ((first | refine n1_ fun b_ => ?_ | refine n2_ fun b_ => ?_ | refine Nat1.mk fun q_ hq_ => ?_ | refine em_ fun x_ hx_ => ?_ | refine Elem1.mk fun e_ he_ => ?_); refine g0_ ?_))
                  rw [← width_eq]
                  (refine g1_ ?_; repeat ((first | refine n1_ fun b_ => ?_ | refine n2_ fun b_ => ?_ | refine Nat1.mk fun q_ hq_ => ?_ | refine em_ fun x_ hx_ => ?_ | refine Elem1.mk fun e_ he_ => ?_); refine g1_ ?_))
                  refine nx_ (k + 1, t) ?_ ?_
                  · exact ⟨by omega, ht, by omega⟩
                  · ((try dsimp only); (try simp only [List.length_drop, List.length_take, List.length_append, List.length_cons, List.length_nil, List.length_map] at *); omega)
                · (refine g1_ ?_; repeat ((first | refine n1_ fun b_ => ?_ | refine n2_ fun b_ => ?_ | refine Nat1.mk fun q_ hq_ => ?_ | refine em_ fun x_ hx_ => ?_ | refine Elem1.mk fun e_ he_ => ?_); refine g1_ ?_))
                  refine ⟨_, widthOf_ok W _, ?_⟩; (refine g0_ ?_; repeat ((first | refine n1_ fun b_ => ?_ | refine n2_ fun b_ => ?_ | refine Nat1.mk fun q_ hq_ => ?_ | refine em_ fun x_ hx_ => ?_ | refine Elem1.mk fun e_ he_ => ?_); refine g0_ ?_))
                  rw [← width_eq]
                  (refine g1_ ?_; repeat ((first | refine n1_ fun b_ => ?_ | refine n2_ fun b_ => ?_ | refine Nat1.mk fun q_ hq_ => ?_ | refine em_ fun x_ hx_ => ?_ | refine Elem1.mk fun e_ he_ => ?_); refine g1_ ?_))
                  refine nx_ (k + 1, t) ?_ ?_
                  · exact ⟨by omega, ht, by omega⟩
                  · ((try dsimp only); (try simp only [List.length_drop, List.length_take, List.length_append, List.length_cons, List.length_nil, List.length_map] at *); omega)
  · have e1 : selectE ls c on = (noCopying, checkC ls c) := by rw [selectE, if_pos h]
    have e2 : takeE ls c = ([], checkC ls c) := by rw [takeE, if_pos h]
    rw [e1] at hse
    rw [e2] at hta
    dsimp only at hse hta
    refine Pure.of (acalls_of_vc (DH_ok (by decide)) Tryd.func3 rfl (by decide) (by decide) rfl ?_)
    (refine g0_ ?_; repeat ((first | refine n1_ fun b_ => ?_ | refine n2_ fun b_ => ?_ | refine Nat1.mk fun q_ hq_ => ?_ | refine em_ fun x_ hx_ => ?_ | refine Elem1.mk fun e_ he_ => ?_); refine g0_ ?_))
    refine (hse).use ?_; (refine g0_ ?_; repeat ((first | refine n1_ fun b_ => ?_ | refine n2_ fun b_ => ?_ | refine Nat1.mk fun q_ hq_ => ?_ | refine em_ fun x_ hx_ => ?_ | refine Elem1.mk fun e_ he_ => ?_); refine g0_ ?_))
    refine (hta).use ?_; (refine g0_ ?_; repeat ((first | refine n1_ fun b_ => ?_ | refine n2_ fun b_ => ?_ | refine Nat1.mk fun q_ hq_ => ?_ | refine em_ fun x_ hx_ => ?_ | refine Elem1.mk fun e_ he_ => ?_); refine g0_ ?_))
    refine (hck).use ?_; (refine g0_ ?_; repeat ((first | refine n1_ fun b_ => ?_ | refine n2_ fun b_ => ?_ | refine Nat1.mk fun q_ hq_ => ?_ | refine em_ fun x_ hx_ => ?_ | refine Elem1.mk fun e_ he_ => ?_); refine g0_ ?_))
    refine (hco).use ?_; (refine g0_ ?_; repeat ((first | refine n1_ fun b_ => ?_ | refine n2_ fun b_ => ?_ | refine Nat1.mk fun q_ hq_ => ?_ | refine em_ fun x_ hx_ => ?_ | refine Elem1.mk fun e_ he_ => ?_); refine g0_ ?_))
    (refine g1_ ?_; repeat ((first | refine n1_ fun b_ => ?_ | refine n2_ fun b_ => ?_ | refine Nat1.mk fun q_ hq_ => ?_ | refine em_ fun x_ hx_ => ?_ | refine Elem1.mk fun e_ he_ => ?_); refine g1_ ?_))
    refine (hco).use ?_; (refine g0_ ?_; repeat ((first | refine n1_ fun b_ => ?_ | refine n2_ fun b_ => ?_ | refine Nat1.mk fun q_ hq_ => ?_ | refine em_ fun x_ hx_ => ?_ | refine Elem1.mk fun e_ he_ => ?_); refine g0_ ?_))
    (refine g1_ ?_; repeat ((first | refine n1_ fun b_ => ?_ | refine n2_ fun b_ => ?_ | refine Nat1.mk fun q_ hq_ => ?_ | refine em_ fun x_ hx_ => ?_ | refine Elem1.mk fun e_ he_ => ?_); refine g1_ ?_))
    refine ⟨_, eq_copying noCopying noCopying noCopying_ok noCopying_ok _ _, ?_⟩
    (refine g1_ ?_; repeat ((first | refine n1_ fun b_ => ?_ | refine n2_ fun b_ => ?_ | refine Nat1.mk fun q_ hq_ => ?_ | refine em_ fun x_ hx_ => ?_ | refine Elem1.mk fun e_ he_ => ?_); refine g1_ ?_))
    exact Frz.of_eq (by simp)
end Go.Eng.YtdepccblnhkmkaaDoor
end
