/- Texts put together: Copy10, Copy11. -/
import Derived.Test.YtdepccblnhkmkaaDoorMP2
/- Lines that are copied from: the document's way through them. -/
section
namespace Go.Eng.YtdepccblnhkmkaaDoor
open Go Go.Eng Go.Proofs
variable (W : World)
set_option linter.unusedSimpArgs false
set_option maxRecDepth 100000
set_option linter.unusedVariables false
set_option maxHeartbeats 8000000
def stepE (y : Int) (p : Nat × Nat) : Bool × Mark := (decide ((p.1 : Int) = 32), ⟨p.2, y⟩)
def sepE : Bool × Mark := (true, noMark)
def encStep (e : Bool × Mark) : PV := .agg [.bool e.1, .int .i64 e.2.x, .int .i64 e.2.y]
def lineW (ls : List (List UInt8)) (Y k : Nat) (y : Nat) : List (Bool × Mark) := ((spotsL (ls.getD y [])).drop (if y = Y then k else 0)).map (stepE y) ++ [sepE]
def rowW (ls : List (List UInt8)) (Y k : Nat) (y n : Nat) : List (Bool × Mark) := (List.range' y n).flatMap (lineW ls Y k)
theorem rowW_succ (ls : List (List UInt8)) (Y k : Nat) (y n : Nat) : rowW ls Y k y (n + 1) = lineW ls Y k y ++ rowW ls Y k (y + 1) n := by
  rw [rowW, List.range'_succ, List.flatMap_cons]; rfl
def scanW : Bool → List (Bool × Mark) → Option Mark
  | _, [] => none
  | b, e :: r => if b = true ∧ e.1 = false then some e.2 else scanW e.1 r
theorem scanW_in (y : Int) (rest : List (Bool × Mark)) : ∀ (l : List (Nat × Nat)) (b : Bool), scanW b (l.map (stepE y) ++ sepE :: rest) = match wordIn y b l with | some m => some m | none => scanW true rest
  | [], b => by
    rw [List.map_nil, List.nil_append, scanW, wordIn, if_neg (by simp [sepE])]; rfl
  | p :: l, b => by
    rw [List.map_cons, List.cons_append, scanW, wordIn]
    by_cases h : p.1 = 32
    · rw [if_neg (by simp [stepE, h]), if_neg (by simp [h])]
      have := scanW_in y rest l true
      rw [show (stepE y p).1 = true by simp [stepE, h], this, show (b || decide (p.1 = 32)) = true by simp [h]]
    · have h' : ¬ (p.1 : Int) = 32 := by omega
      cases b
      · rw [if_neg (by simp), if_neg (by simp)]
        have := scanW_in y rest l false
        rw [show (stepE y p).1 = false by simp [stepE, h'], this, show (false || decide (p.1 = 32)) = false by simp [h]]
      · rw [if_pos ⟨rfl, by simp [stepE, h']⟩, if_pos ⟨h, rfl⟩]; rfl
theorem at_zero (s : List UInt8) : atL (spotsL s) 0 ≤ 0 := by
  have hle := atF_le (spotsL s) 0 (spotsL s).length
  unfold atL
  apply Decidable.byContradiction
  intro h
  obtain ⟨p, hp⟩ : ∃ p, (spotsL s)[1]? = some p := ⟨_, List.getElem?_eq_getElem (by omega)⟩
  obtain ⟨q, hq⟩ : ∃ q, (spotsL s)[0]? = some q := ⟨_, List.getElem?_eq_getElem (by omega)⟩
  have h1 := (atF_iff s 0 _ (Nat.le_refl _) 1 p (lt_of_at hp) hp).1 (by omega)
  have h2 := spots_lt s hq 0 p hp
  have h3 := spots_pos s hq
  omega
theorem scanW_rows (ls : List (List UInt8)) (Y k : Nat) : ∀ (n y : Nat), Y < y → y + n = ls.length → scanW true (rowW ls Y k y n) = wordFrom (ls.drop y) y true 0
  | 0, y, h, hn => by
    rw [List.drop_of_length_le (by omega)]; rfl
  | n + 1, y, h, hn => by
    obtain ⟨s, hs⟩ : ∃ s, ls[y]? = some s := ⟨ls[y]'(by omega), List.getElem?_eq_getElem _⟩
    have hsd : ls.getD y [] = s := by rw [List.getD_eq_getElem?_getD, hs]; rfl
    have h0 := at_zero s
    have ih := scanW_rows ls Y k n (y + 1) (by omega) (by omega)
    rw [rowW_succ, lineW, hsd, if_neg (by omega), List.drop_zero, List.append_assoc, List.singleton_append, scanW_in, ih, drop_cons_of hs, wordFrom, show (max (atL (spotsL s) 0) 0).toNat = 0 by omega, List.drop_zero]
    rfl
theorem scanW_word (ls : List (List UInt8)) (Y : Nat) (x : Int) (h : Y < ls.length) : scanW false (rowW ls Y (max (atL (spotsL (ls.getD Y [])) x) 0).toNat Y (ls.length - Y)) = wordFrom (ls.drop Y) Y false x := by
  obtain ⟨s, hs⟩ : ∃ s, ls[Y]? = some s := ⟨ls[Y]'h, List.getElem?_eq_getElem _⟩
  have hsd : ls.getD Y [] = s := by rw [List.getD_eq_getElem?_getD, hs]; rfl
  obtain ⟨n, hn⟩ : ∃ n, ls.length - Y = n + 1 := ⟨ls.length - Y - 1, by omega⟩
  have ih := scanW_rows ls Y (max (atL (spotsL s) x) 0).toNat n (Y + 1) (by omega) (by omega)
  rw [hn, rowW_succ, lineW, hsd, if_pos rfl, List.append_assoc, List.singleton_append, scanW_in, ih, drop_cons_of hs, wordFrom]
  rfl
def wentV (ls : List (List UInt8)) (m : Mark) (how : List UInt8) : Mark × Bool := match moveM ls m how with
  | some r => (r, true)
  | none => (m, false)
theorem wentTo_ok (hT : Tabs W) (ls : List (List UInt8)) (m : Mark) (how : List UInt8) (h0 : 0 ≤ m.y) (h1 : m.y < ls.length) (hx : 0 ≤ m.x ∧ m.x ≤ 120) (hl : ls.length ≤ 110) (hb : ∀ s ∈ ls, s.length ≤ 4000) :
    Pure Tryd.prog W 21 [encLines ls, encMark m, .str how] (.tup [encMark (wentV ls m how).1, .bool (wentV ls m how).2]) := by
  have hlm : (ls.map PV.str).length = ls.length := List.length_map _
  obtain ⟨mx, my⟩ := m
  dsimp only at h0 h1 hx
  obtain ⟨Y, rfl⟩ := Int.eq_ofNat_of_zero_le h0
  obtain ⟨s, hs⟩ : ∃ s, ls[Y]? = some s := ⟨ls[Y]'(by omega), List.getElem?_eq_getElem _⟩
  have hsb := hb s (List.mem_of_getElem? hs)
  have hsl := spotsL_le s
  have hal := atF_le (spotsL s) mx (spotsL s).length
  have hsd : ls.getD Y [] = s := by rw [List.getD_eq_getElem?_getD, hs]; rfl
  have hlm2 : ((spotsL s).map encSpot).length = (spotsL s).length := List.length_map _
  have hab : -1 ≤ atL (spotsL s) mx ∧ atL (spotsL s) mx < (spotsL s).length := by unfold atL; omega
  rw [wentV, moveM]
  dsimp only
  rw [Int.toNat_natCast, hsd, encMark, encLines]
  dsimp only
  refine Pure.of (acalls_of_vc (drawOk W) Tryd.func21 rfl (by decide) (by decide) rfl ?_)
  (refine g0_ ?_; repeat ((first | refine n1_ fun b_ => ?_ | refine n2_ fun b_ => ?_ | refine Nat1.mk fun q_ hq_ => ?_ | refine em_ fun x_ hx_ => ?_ | refine Elem1.mk fun e_ he_ => ?_); refine g0_ ?_))
  refine (spots_ok W s (by omega)).use ?_; (refine g0_ ?_; repeat ((first | refine n1_ fun b_ => ?_ | refine n2_ fun b_ => ?_ | refine Nat1.mk fun q_ hq_ => ?_ | refine em_ fun x_ hx_ => ?_ | refine Elem1.mk fun e_ he_ => ?_); refine g0_ ?_))
  rw [show spotsRs 0 (runes s) = spotsL s from rfl]
  (refine g0_ ?_; repeat ((first | refine n1_ fun b_ => ?_ | refine n2_ fun b_ => ?_ | refine Nat1.mk fun q_ hq_ => ?_ | refine em_ fun x_ hx_ => ?_ | refine Elem1.mk fun e_ he_ => ?_); refine g0_ ?_))
  refine (spotAt_ok W s mx (by omega)).use ?_; (refine g0_ ?_; repeat ((first | refine n1_ fun b_ => ?_ | refine n2_ fun b_ => ?_ | refine Nat1.mk fun q_ hq_ => ?_ | refine em_ fun x_ hx_ => ?_ | refine Elem1.mk fun e_ he_ => ?_); refine g0_ ?_))
  rw [hlm]
  by_cases e1 : how = upS
  · rw [if_pos e1]
    subst e1
    (refine g1_ ?_; repeat ((first | refine n1_ fun b_ => ?_ | refine n2_ fun b_ => ?_ | refine Nat1.mk fun q_ hq_ => ?_ | refine em_ fun x_ hx_ => ?_ | refine Elem1.mk fun e_ he_ => ?_); refine g1_ ?_))
    dsimp only
    exact frz_mv (by (try split) <;> omega) (by (try split) <;> omega)
  rw [if_neg e1]
  by_cases e2 : how = downS
  · rw [if_pos e2]
    subst e2
    (refine g1_ ?_; repeat ((first | refine n1_ fun b_ => ?_ | refine n2_ fun b_ => ?_ | refine Nat1.mk fun q_ hq_ => ?_ | refine em_ fun x_ hx_ => ?_ | refine Elem1.mk fun e_ he_ => ?_); refine g1_ ?_))
    dsimp only
    exact frz_mv (by (try split) <;> omega) (by (try split) <;> omega)
  rw [if_neg e2]
  by_cases e3 : how = leftS
  · rw [if_pos e3]
    subst e3
    by_cases hk : 0 < atL (spotsL s) mx
    · rw [if_pos hk]
      obtain ⟨p, hp⟩ : ∃ p, (spotsL s)[(atL (spotsL s) mx - 1).toNat]? = some p := ⟨_, List.getElem?_eq_getElem (by unfold atL at *; omega)⟩
      rw [List.getD_eq_getElem?_getD, hp, Option.getD_some]
      (refine g1_ ?_; repeat ((first | refine n1_ fun b_ => ?_ | refine n2_ fun b_ => ?_ | refine Nat1.mk fun q_ hq_ => ?_ | refine em_ fun x_ hx_ => ?_ | refine Elem1.mk fun e_ he_ => ?_); refine g1_ ?_))
      refine head_ ?_
      (refine g1_ ?_; repeat ((first | refine n1_ fun b_ => ?_ | refine n2_ fun b_ => ?_ | refine Nat1.mk fun q_ hq_ => ?_ | refine em_ fun x_ hx_ => ?_ | refine Elem1.mk fun e_ he_ => ?_); refine g1_ ?_))
      obtain rfl : q_ = (atL (spotsL s) mx - 1).toNat := by omega
      rw [hp] at hx_
      cases hx_
      (refine g1_ ?_; repeat ((first | refine n1_ fun b_ => ?_ | refine n2_ fun b_ => ?_ | refine Nat1.mk fun q_ hq_ => ?_ | refine em_ fun x_ hx_ => ?_ | refine Elem1.mk fun e_ he_ => ?_); refine g1_ ?_))
      dsimp only
      exact frz_mv (by (try split) <;> omega) (by (try split) <;> omega)
    · rw [if_neg hk]
      by_cases hY : 0 < (Y : Int)
      · rw [if_pos hY]
        obtain ⟨s2, hs2⟩ : ∃ s, ls[((Y : Int) - 1).toNat]? = some s := ⟨_, List.getElem?_eq_getElem (by omega)⟩
        have hsb2 := hb s2 (List.mem_of_getElem? hs2)
        rw [List.getD_eq_getElem?_getD, hs2, Option.getD_some]
        (refine g1_ ?_; repeat ((first | refine n1_ fun b_ => ?_ | refine n2_ fun b_ => ?_ | refine Nat1.mk fun q_ hq_ => ?_ | refine em_ fun x_ hx_ => ?_ | refine Elem1.mk fun e_ he_ => ?_); refine g1_ ?_))
        refine head_ ?_
        (refine g1_ ?_; repeat ((first | refine n1_ fun b_ => ?_ | refine n2_ fun b_ => ?_ | refine Nat1.mk fun q_ hq_ => ?_ | refine em_ fun x_ hx_ => ?_ | refine Elem1.mk fun e_ he_ => ?_); refine g1_ ?_))
        obtain rfl : q_ = ((Y : Int) - 1).toNat := by omega
        rw [hs2] at hx_
        cases hx_
        refine ⟨_, endOf_ok W s2 (by omega), ?_⟩; (refine g0_ ?_; repeat ((first | refine n1_ fun b_ => ?_ | refine n2_ fun b_ => ?_ | refine Nat1.mk fun q_ hq_ => ?_ | refine em_ fun x_ hx_ => ?_ | refine Elem1.mk fun e_ he_ => ?_); refine g0_ ?_))
        dsimp only
        exact frz_mv (by (try split) <;> omega) (by (try split) <;> omega)
      · rw [if_neg hY]
        (refine g1_ ?_; repeat ((first | refine n1_ fun b_ => ?_ | refine n2_ fun b_ => ?_ | refine Nat1.mk fun q_ hq_ => ?_ | refine em_ fun x_ hx_ => ?_ | refine Elem1.mk fun e_ he_ => ?_); refine g1_ ?_))
        dsimp only
        exact frz_mv (by (try split) <;> omega) (by (try split) <;> omega)
  rw [if_neg e3]
  by_cases e4 : how = rightS
  · rw [if_pos e4]
    subst e4
    by_cases hk : atL (spotsL s) mx + 1 < (spotsL s).length
    · rw [if_pos hk]
      obtain ⟨p, hp⟩ : ∃ p, (spotsL s)[(atL (spotsL s) mx + 1).toNat]? = some p := ⟨_, List.getElem?_eq_getElem (by unfold atL at *; omega)⟩
      have hk0 : 0 ≤ atL (spotsL s) mx + 1 := by unfold atL; omega
      rw [List.getD_eq_getElem?_getD, hp, Option.getD_some]
      (refine g1_ ?_; repeat ((first | refine n1_ fun b_ => ?_ | refine n2_ fun b_ => ?_ | refine Nat1.mk fun q_ hq_ => ?_ | refine em_ fun x_ hx_ => ?_ | refine Elem1.mk fun e_ he_ => ?_); refine g1_ ?_))
      refine head_ ?_
      (refine g1_ ?_; repeat ((first | refine n1_ fun b_ => ?_ | refine n2_ fun b_ => ?_ | refine Nat1.mk fun q_ hq_ => ?_ | refine em_ fun x_ hx_ => ?_ | refine Elem1.mk fun e_ he_ => ?_); refine g1_ ?_))
      obtain rfl : q_ = (atL (spotsL s) mx + 1).toNat := by omega
      rw [hp] at hx_
      cases hx_
      (refine g1_ ?_; repeat ((first | refine n1_ fun b_ => ?_ | refine n2_ fun b_ => ?_ | refine Nat1.mk fun q_ hq_ => ?_ | refine em_ fun x_ hx_ => ?_ | refine Elem1.mk fun e_ he_ => ?_); refine g1_ ?_))
      dsimp only
      exact frz_mv (by (try split) <;> omega) (by (try split) <;> omega)
    · rw [if_neg hk]
      by_cases hY : (Y : Int) + 1 < ls.length
      · rw [if_pos hY]
        (refine g1_ ?_; repeat ((first | refine n1_ fun b_ => ?_ | refine n2_ fun b_ => ?_ | refine Nat1.mk fun q_ hq_ => ?_ | refine em_ fun x_ hx_ => ?_ | refine Elem1.mk fun e_ he_ => ?_); refine g1_ ?_))
        exact .refl _
      · rw [if_neg hY]
        (refine g1_ ?_; repeat ((first | refine n1_ fun b_ => ?_ | refine n2_ fun b_ => ?_ | refine Nat1.mk fun q_ hq_ => ?_ | refine em_ fun x_ hx_ => ?_ | refine Elem1.mk fun e_ he_ => ?_); refine g1_ ?_))
        dsimp only
        exact frz_mv (by (try split) <;> omega) (by (try split) <;> omega)
  rw [if_neg e4]
  by_cases e5 : how = startS
  · rw [if_pos e5]
    subst e5
    (refine g1_ ?_; repeat ((first | refine n1_ fun b_ => ?_ | refine n2_ fun b_ => ?_ | refine Nat1.mk fun q_ hq_ => ?_ | refine em_ fun x_ hx_ => ?_ | refine Elem1.mk fun e_ he_ => ?_); refine g1_ ?_))
    exact .refl _
  rw [if_neg e5]
  by_cases e6 : how = endS
  · rw [if_pos e6]
    subst e6
    (refine g1_ ?_; repeat ((first | refine n1_ fun b_ => ?_ | refine n2_ fun b_ => ?_ | refine Nat1.mk fun q_ hq_ => ?_ | refine em_ fun x_ hx_ => ?_ | refine Elem1.mk fun e_ he_ => ?_); refine g1_ ?_))
    refine head_ ?_
    (refine g1_ ?_; repeat ((first | refine n1_ fun b_ => ?_ | refine n2_ fun b_ => ?_ | refine Nat1.mk fun q_ hq_ => ?_ | refine em_ fun x_ hx_ => ?_ | refine Elem1.mk fun e_ he_ => ?_); refine g1_ ?_))
    refine ⟨_, endOf_ok W s (by omega), ?_⟩; (refine g0_ ?_; repeat ((first | refine n1_ fun b_ => ?_ | refine n2_ fun b_ => ?_ | refine Nat1.mk fun q_ hq_ => ?_ | refine em_ fun x_ hx_ => ?_ | refine Elem1.mk fun e_ he_ => ?_); refine g0_ ?_))
    dsimp only
    exact frz_mv (by (try split) <;> omega) (by (try split) <;> omega)
  rw [if_neg e6]
  by_cases e7 : how = topS
  · rw [if_pos e7]
    subst e7
    (refine g1_ ?_; repeat ((first | refine n1_ fun b_ => ?_ | refine n2_ fun b_ => ?_ | refine Nat1.mk fun q_ hq_ => ?_ | refine em_ fun x_ hx_ => ?_ | refine Elem1.mk fun e_ he_ => ?_); refine g1_ ?_))
    exact .refl _
  rw [if_neg e7]
  by_cases e8 : how = bottomS
  · rw [if_pos e8]
    subst e8
    (refine g1_ ?_; repeat ((first | refine n1_ fun b_ => ?_ | refine n2_ fun b_ => ?_ | refine Nat1.mk fun q_ hq_ => ?_ | refine em_ fun x_ hx_ => ?_ | refine Elem1.mk fun e_ he_ => ?_); refine g1_ ?_))
    exact .refl _
  rw [if_neg e8]
  by_cases e9 : how = wordS
  · rw [if_pos e9]
    subst e9
    clear e1 e2 e3 e4 e5 e6 e7 e8
    obtain ⟨K, hK⟩ : ∃ K : Nat, K = (max (atL (spotsL s) mx) 0).toNat := ⟨_, rfl⟩
    have hKl : K ≤ (spotsL s).length := by omega
    have hsw := scanW_word ls Y mx (by omega)
    rw [hsd, ← hK] at hsw
    obtain ⟨n0, hn0⟩ : ∃ n0, ls.length - Y = n0 + 1 := ⟨ls.length - Y - 1, by omega⟩
    obtain ⟨e0, T, hT0⟩ : ∃ e0 T, rowW ls Y K Y (ls.length - Y) = e0 :: T := by
      cases hc : rowW ls Y K Y (ls.length - Y) with
      | nil => rw [hn0, rowW_succ, lineW] at hc; simp at hc
      | cons e0 T => exact ⟨e0, T, rfl⟩
    rw [hT0] at hsw
    (refine g1_ ?_; repeat ((first | refine n1_ fun b_ => ?_ | refine n2_ fun b_ => ?_ | refine Nat1.mk fun q_ hq_ => ?_ | refine em_ fun x_ hx_ => ?_ | refine Elem1.mk fun e_ he_ => ?_); refine g1_ ?_))
    rename_i b4
    obtain ⟨b6, rfl⟩ : ∃ b6, b6 = b_ := ⟨_, rfl⟩
    refine' loopI (α := Nat × Nat × (List PV)) (fun (y, bo, rows) => [(12, .int .i64 y), (11, accV bo 3 rows)]) [(0, _), (4, _), (6, _), (9, _), (10, _)] (fun (y, bo, rows) => [⟨b6, .row 2 [.agg [.int .i64 0, .int .i64 0]] 0⟩, ⟨b4, .row 2 [.agg [.int .i64 mx, .int .i64 Y]] 0⟩] ++ accM bo 3 rows) (fun (y, bo, rows) => (Y ≤ y ∧ y ≤ ls.length ∧ rows.length ≤ 5000 * y) ∧ rows ++ (rowW ls Y K y (ls.length - y)).map encStep = (e0 :: T).map encStep) (fun (y, bo, rows) => ls.length - y) (Y, 0, []) ?_ ?_
    · exact ⟨⟨Nat.le_refl _, by omega, by simp⟩, by rw [hT0, List.nil_append]⟩
    rintro ⟨y, bo, rows⟩ ⟨hy, hr⟩
    (refine g0_ ?_; repeat ((first | refine n1_ fun b_ => ?_ | refine n2_ fun b_ => ?_ | refine Nat1.mk fun q_ hq_ => ?_ | refine em_ fun x_ hx_ => ?_ | refine Elem1.mk fun e_ he_ => ?_); refine g0_ ?_))
    refine brec ?_; intro c_ h2; (try rw [h2]); cases c_ <;> replace h2 := nm_ h2
    · obtain rfl : y = ls.length := by omega
      rw [Nat.sub_self, show rowW ls Y K ls.length 0 = [] from rfl, List.map_nil, List.append_nil] at hr
      subst hr
      have hTl : (T.map encStep).length = T.length := List.length_map _
      have hTb : T.length + 1 ≤ 5000 * ls.length := by simpa using hy.2.2
      (refine g0_ ?_; repeat ((first | refine n1_ fun b_ => ?_ | refine n2_ fun b_ => ?_ | refine Nat1.mk fun q_ hq_ => ?_ | refine em_ fun x_ hx_ => ?_ | refine Elem1.mk fun e_ he_ => ?_); refine g0_ ?_))
      refine' loopI (α := Nat) (fun j => [(15, .int .i64 ((j : Int) + 1))]) [(0, _), (6, _), (10, _), (11, _)] (fun j => [⟨b6, .row 2 [.agg [.int .i64 0, .int .i64 0]] 0⟩, ⟨b4, .row 2 [.agg [.int .i64 mx, .int .i64 Y]] 0⟩, ⟨bo, .row 3 ((e0 :: T).map encStep) 0⟩]) (fun j => j ≤ T.length ∧ ∃ e, (e0 :: T)[j]? = some e ∧ scanW e.1 ((e0 :: T).drop (j + 1)) = wordFrom (ls.drop Y) Y false mx) (fun j => T.length - j) 0 ?_ ?_
      · exact ⟨Nat.zero_le _, e0, rfl, by rw [← hsw, scanW]; simp⟩
      rintro j ⟨hj, e, he, hsc⟩
      (refine g0_ ?_; repeat ((first | refine n1_ fun b_ => ?_ | refine n2_ fun b_ => ?_ | refine Nat1.mk fun q_ hq_ => ?_ | refine em_ fun x_ hx_ => ?_ | refine Elem1.mk fun e_ he_ => ?_); refine g0_ ?_))
      refine brec ?_; intro c_ h4; (try rw [h4]); cases c_ <;> replace h4 := nm_ h4
      · rw [hTl] at h4
        obtain rfl : j = T.length := by omega
        rw [List.drop_of_length_le (by simp), scanW] at hsc
        obtain ⟨sl, hsl2⟩ : ∃ s, ls[ls.length - 1]? = some s := ⟨_, List.getElem?_eq_getElem (by omega)⟩
        have hW : wordL ls ⟨mx, Y⟩ = ⟨endL sl, (ls.length : Int) - 1⟩ := by rw [wordL]; dsimp only; rw [Int.toNat_natCast, ← hsc, List.getLast?_eq_getElem?, hsl2]; rfl
        have hsb2 := hb sl (List.mem_of_getElem? hsl2)
        rw [hW]
        (refine g0_ ?_; repeat ((first | refine n1_ fun b_ => ?_ | refine n2_ fun b_ => ?_ | refine Nat1.mk fun q_ hq_ => ?_ | refine em_ fun x_ hx_ => ?_ | refine Elem1.mk fun e_ he_ => ?_); refine g0_ ?_))
        obtain rfl : q_ = ls.length - 1 := by omega
        rw [hsl2] at hx_
        cases hx_
        refine (endOf_ok W sl (by omega)).use ?_; (refine g0_ ?_; repeat ((first | refine n1_ fun b_ => ?_ | refine n2_ fun b_ => ?_ | refine Nat1.mk fun q_ hq_ => ?_ | refine em_ fun x_ hx_ => ?_ | refine Elem1.mk fun e_ he_ => ?_); refine g0_ ?_))
        exact .refl _
      · rw [hTl] at h4
        obtain ⟨f, hf⟩ : ∃ f, (e0 :: T)[j + 1]? = some f := ⟨_, List.getElem?_eq_getElem (by simp; omega)⟩
        rw [drop_cons_of hf, scanW] at hsc
        obtain ⟨eb, em⟩ := e
        obtain ⟨fb, fm⟩ := f
        cases eb
        · rw [if_neg (by simp)] at hsc
          (refine g0_ ?_; repeat ((first | refine n1_ fun b_ => ?_ | refine n2_ fun b_ => ?_ | refine Nat1.mk fun q_ hq_ => ?_ | refine em_ fun x_ hx_ => ?_ | refine Elem1.mk fun e_ he_ => ?_); refine g0_ ?_))
          obtain rfl : q_ = j := by omega
          rw [Nat.zero_add, he] at hx_
          cases hx_
          (refine g1_ ?_; repeat ((first | refine n1_ fun b_ => ?_ | refine n2_ fun b_ => ?_ | refine Nat1.mk fun q_ hq_ => ?_ | refine em_ fun x_ hx_ => ?_ | refine Elem1.mk fun e_ he_ => ?_); refine g1_ ?_))
          refine nx_ (q_ + 1) ?_ ?_
          · exact ⟨by omega, _, hf, hsc⟩
          · ((try dsimp only); (try simp only [List.length_drop, List.length_take, List.length_append, List.length_cons, List.length_nil, List.length_map] at *); omega)
        · cases fb
          · rw [if_pos ⟨rfl, rfl⟩] at hsc
            have hW : wordL ls ⟨mx, Y⟩ = fm := by rw [wordL]; dsimp only; rw [Int.toNat_natCast, ← hsc]; rfl
            rw [hW]
            (refine g0_ ?_; repeat ((first | refine n1_ fun b_ => ?_ | refine n2_ fun b_ => ?_ | refine Nat1.mk fun q_ hq_ => ?_ | refine em_ fun x_ hx_ => ?_ | refine Elem1.mk fun e_ he_ => ?_); refine g0_ ?_))
            obtain rfl : q_ = j := by omega
            rw [Nat.zero_add, he] at hx_
            cases hx_
            (refine g1_ ?_; repeat ((first | refine n1_ fun b_ => ?_ | refine n2_ fun b_ => ?_ | refine Nat1.mk fun q_ hq_ => ?_ | refine em_ fun x_ hx_ => ?_ | refine Elem1.mk fun e_ he_ => ?_); refine g1_ ?_))
            rw [Nat.zero_add, hf] at hx_
            cases hx_
            (refine g1_ ?_; repeat ((first | refine n1_ fun b_ => ?_ | refine n2_ fun b_ => ?_ | refine Nat1.mk fun q_ hq_ => ?_ | refine em_ fun x_ hx_ => ?_ | refine Elem1.mk fun e_ he_ => ?_); refine g1_ ?_))
            rw [Nat.zero_add, hf] at hx_
            cases hx_
            (refine g1_ ?_; repeat ((first | refine n1_ fun b_ => ?_ | refine n2_ fun b_ => ?_ | refine Nat1.mk fun q_ hq_ => ?_ | refine em_ fun x_ hx_ => ?_ | refine Elem1.mk fun e_ he_ => ?_); refine g1_ ?_))
            exact .refl _
          · rw [if_neg (by simp)] at hsc
            (refine g0_ ?_; repeat ((first | refine n1_ fun b_ => ?_ | refine n2_ fun b_ => ?_ | refine Nat1.mk fun q_ hq_ => ?_ | refine em_ fun x_ hx_ => ?_ | refine Elem1.mk fun e_ he_ => ?_); refine g0_ ?_))
            obtain rfl : q_ = j := by omega
            rw [Nat.zero_add, he] at hx_
            cases hx_
            (refine g1_ ?_; repeat ((first | refine n1_ fun b_ => ?_ | refine n2_ fun b_ => ?_ | refine Nat1.mk fun q_ hq_ => ?_ | refine em_ fun x_ hx_ => ?_ | refine Elem1.mk fun e_ he_ => ?_); refine g1_ ?_))
            rw [Nat.zero_add, hf] at hx_
            cases hx_
            (refine g1_ ?_; repeat ((first | refine n1_ fun b_ => ?_ | refine n2_ fun b_ => ?_ | refine Nat1.mk fun q_ hq_ => ?_ | refine em_ fun x_ hx_ => ?_ | refine Elem1.mk fun e_ he_ => ?_); refine g1_ ?_))
            refine nx_ (q_ + 1) ?_ ?_
            · exact ⟨by omega, _, hf, hsc⟩
            · ((try dsimp only); (try simp only [List.length_drop, List.length_take, List.length_append, List.length_cons, List.length_nil, List.length_map] at *); omega)
    · obtain ⟨s2, hs2⟩ : ∃ s, ls[y]? = some s := ⟨ls[y]'(by omega), List.getElem?_eq_getElem _⟩
      have hsb2 := hb s2 (List.mem_of_getElem? hs2)
      have hsl2 := spotsL_le s2
      have hsd2 : ls.getD y [] = s2 := by rw [List.getD_eq_getElem?_getD, hs2]; rfl
      have hlm3 : ((spotsL s2).map encSpot).length = (spotsL s2).length := List.length_map _
      rw [show ls.length - y = (ls.length - (y + 1)) + 1 by omega, rowW_succ, lineW, hsd2] at hr
      obtain ⟨kk, hkk⟩ : ∃ kk, kk = if y = Y then K else 0 := ⟨_, rfl⟩
      rw [← hkk] at hr
      (refine g0_ ?_; repeat ((first | refine n1_ fun b_ => ?_ | refine n2_ fun b_ => ?_ | refine Nat1.mk fun q_ hq_ => ?_ | refine em_ fun x_ hx_ => ?_ | refine Elem1.mk fun e_ he_ => ?_); refine g0_ ?_))
      refine (spots_ok W s2 (by omega)).use ?_; (refine g0_ ?_; repeat ((first | refine n1_ fun b_ => ?_ | refine n2_ fun b_ => ?_ | refine Nat1.mk fun q_ hq_ => ?_ | refine em_ fun x_ hx_ => ?_ | refine Elem1.mk fun e_ he_ => ?_); refine g0_ ?_))
      rw [show spotsRs 0 (runes s2) = spotsL s2 from rfl]
      refine' loopI (α := Nat × Nat × (List PV)) (fun (i, bo, rows) => [(140, .int .i64 i), (11, accV bo 3 rows)]) [(0, _), (4, _), (6, _), (9, _), (10, _), (12, _), (138, _), (139, _)] (fun (i, bo, rows) => [⟨b6, .row 2 [.agg [.int .i64 0, .int .i64 0]] 0⟩, ⟨b4, .row 2 [.agg [.int .i64 mx, .int .i64 Y]] 0⟩] ++ accM bo 3 rows) (fun (i, bo, rows) => (i ≤ (spotsL s2).length ∧ rows.length ≤ 5000 * y + i) ∧ rows ++ (((spotsL s2).drop (max i kk)).map (stepE y) ++ [sepE] ++ rowW ls Y K (y + 1) (ls.length - (y + 1))).map encStep = (e0 :: T).map encStep) (fun (i, bo, rows) => (spotsL s2).length - i) (0, bo, rows) ?_ ?_
      · exact ⟨⟨Nat.zero_le _, by omega⟩, by rw [Nat.zero_max]; exact hr⟩
      clear hr
      rintro ⟨i, bo, rows⟩ ⟨hi, hr⟩
      (refine g0_ ?_; repeat ((first | refine n1_ fun b_ => ?_ | refine n2_ fun b_ => ?_ | refine Nat1.mk fun q_ hq_ => ?_ | refine em_ fun x_ hx_ => ?_ | refine Elem1.mk fun e_ he_ => ?_); refine g0_ ?_))
      refine brec ?_; intro c_ h3; (try rw [h3]); cases c_ <;> replace h3 := nm_ h3
      · rw [hlm3] at h3
        rw [List.drop_of_length_le (by omega), List.map_nil, List.nil_append, List.map_append] at hr
        rcases rows with _ | ⟨r0, rows⟩
        · (refine g0_ ?_; repeat ((first | refine n1_ fun b_ => ?_ | refine n2_ fun b_ => ?_ | refine Nat1.mk fun q_ hq_ => ?_ | refine em_ fun x_ hx_ => ?_ | refine Elem1.mk fun e_ he_ => ?_); refine g0_ ?_))
          refine .inl ?_
          (refine g0_ ?_; repeat ((first | refine n1_ fun b_ => ?_ | refine n2_ fun b_ => ?_ | refine Nat1.mk fun q_ hq_ => ?_ | refine em_ fun x_ hx_ => ?_ | refine Elem1.mk fun e_ he_ => ?_); refine g0_ ?_))
          refine nx_ (y + 1, b_, [] ++ [encStep sepE]) ?_ ?_
          · exact ⟨⟨by omega, by omega, by simp only [List.length_append, List.length_cons, List.length_nil] at hi ⊢; omega⟩, by rw [← hr]; simp⟩
          · ((try dsimp only); (try simp only [List.length_drop, List.length_take, List.length_append, List.length_cons, List.length_nil, List.length_map] at *); omega)
        · simp only [List.length_cons] at hi
          (refine g0_ ?_; repeat ((first | refine n1_ fun b_ => ?_ | refine n2_ fun b_ => ?_ | refine Nat1.mk fun q_ hq_ => ?_ | refine em_ fun x_ hx_ => ?_ | refine Elem1.mk fun e_ he_ => ?_); refine g0_ ?_))
          refine .inl ?_
          (refine g0_ ?_; repeat ((first | refine n1_ fun b_ => ?_ | refine n2_ fun b_ => ?_ | refine Nat1.mk fun q_ hq_ => ?_ | refine em_ fun x_ hx_ => ?_ | refine Elem1.mk fun e_ he_ => ?_); refine g0_ ?_))
          refine nx_ (y + 1, b_, (r0 :: rows) ++ [encStep sepE]) ?_ ?_
          · exact ⟨⟨by omega, by omega, by simp only [List.length_append, List.length_cons, List.length_nil] at hi ⊢; omega⟩, by rw [← hr]; simp⟩
          · ((try dsimp only); (try simp only [List.length_drop, List.length_take, List.length_append, List.length_cons, List.length_nil, List.length_map] at *); omega)
      · rw [hlm3] at h3
        obtain ⟨p, hp⟩ : ∃ p, (spotsL s2)[i]? = some p := ⟨(spotsL s2)[i]'(by omega), List.getElem?_eq_getElem _⟩
        by_cases hik : kk ≤ i
        · rw [Nat.max_eq_left hik, drop_cons_of hp] at hr
          have hc : (Y : Int) < y ∨ atL (spotsL s) mx ≤ i := by
            by_cases hyY : y = Y
            · rw [if_pos hyY] at hkk; omega
            · omega
          rw [List.map_cons, List.cons_append, List.cons_append, List.map_cons] at hr
          by_cases c1 : (Y : Int) < y
          · rcases rows with _ | ⟨r0, rows⟩
            · (refine g1_ ?_; repeat ((first | refine n1_ fun b_ => ?_ | refine n2_ fun b_ => ?_ | refine Nat1.mk fun q_ hq_ => ?_ | refine em_ fun x_ hx_ => ?_ | refine Elem1.mk fun e_ he_ => ?_); refine g1_ ?_))
              refine .inl ?_
              (refine g1_ ?_; repeat ((first | refine n1_ fun b_ => ?_ | refine n2_ fun b_ => ?_ | refine Nat1.mk fun q_ hq_ => ?_ | refine em_ fun x_ hx_ => ?_ | refine Elem1.mk fun e_ he_ => ?_); refine g1_ ?_))
              refine nx_ (i + 1, b_, [] ++ [encStep (stepE y p)]) ?_ ?_
              · exact ⟨⟨by omega, by simp only [List.length_append, List.length_cons, List.length_nil] at hi ⊢; omega⟩, by rw [Nat.max_eq_left (by omega), ← hr, List.append_assoc, List.singleton_append]⟩
              · ((try dsimp only); (try simp only [List.length_drop, List.length_take, List.length_append, List.length_cons, List.length_nil, List.length_map] at *); omega)
            · simp only [List.length_cons] at hi
              (refine g1_ ?_; repeat ((first | refine n1_ fun b_ => ?_ | refine n2_ fun b_ => ?_ | refine Nat1.mk fun q_ hq_ => ?_ | refine em_ fun x_ hx_ => ?_ | refine Elem1.mk fun e_ he_ => ?_); refine g1_ ?_))
              refine .inl ?_
              (refine g1_ ?_; repeat ((first | refine n1_ fun b_ => ?_ | refine n2_ fun b_ => ?_ | refine Nat1.mk fun q_ hq_ => ?_ | refine em_ fun x_ hx_ => ?_ | refine Elem1.mk fun e_ he_ => ?_); refine g1_ ?_))
              refine nx_ (i + 1, b_, (r0 :: rows) ++ [encStep (stepE y p)]) ?_ ?_
              · exact ⟨⟨by omega, by simp only [List.length_append, List.length_cons, List.length_nil] at hi ⊢; omega⟩, by rw [Nat.max_eq_left (by omega), ← hr, List.append_assoc, List.singleton_append]⟩
              · ((try dsimp only); (try simp only [List.length_drop, List.length_take, List.length_append, List.length_cons, List.length_nil, List.length_map] at *); omega)
          · have c2 := hc.resolve_left c1
            rcases rows with _ | ⟨r0, rows⟩
            · (refine g1_ ?_; repeat ((first | refine n1_ fun b_ => ?_ | refine n2_ fun b_ => ?_ | refine Nat1.mk fun q_ hq_ => ?_ | refine em_ fun x_ hx_ => ?_ | refine Elem1.mk fun e_ he_ => ?_); refine g1_ ?_))
              refine .inl ?_
              (refine g1_ ?_; repeat ((first | refine n1_ fun b_ => ?_ | refine n2_ fun b_ => ?_ | refine Nat1.mk fun q_ hq_ => ?_ | refine em_ fun x_ hx_ => ?_ | refine Elem1.mk fun e_ he_ => ?_); refine g1_ ?_))
              refine nx_ (i + 1, b_, [] ++ [encStep (stepE y p)]) ?_ ?_
              · exact ⟨⟨by omega, by simp only [List.length_append, List.length_cons, List.length_nil] at hi ⊢; omega⟩, by rw [Nat.max_eq_left (by omega), ← hr, List.append_assoc, List.singleton_append]⟩
              · ((try dsimp only); (try simp only [List.length_drop, List.length_take, List.length_append, List.length_cons, List.length_nil, List.length_map] at *); omega)
            · simp only [List.length_cons] at hi
              (refine g1_ ?_; repeat ((first | refine n1_ fun b_ => ?_ | refine n2_ fun b_ => ?_ | refine Nat1.mk fun q_ hq_ => ?_ | refine em_ fun x_ hx_ => ?_ | refine Elem1.mk fun e_ he_ => ?_); refine g1_ ?_))
              refine .inl ?_
              (refine g1_ ?_; repeat ((first | refine n1_ fun b_ => ?_ | refine n2_ fun b_ => ?_ | refine Nat1.mk fun q_ hq_ => ?_ | refine em_ fun x_ hx_ => ?_ | refine Elem1.mk fun e_ he_ => ?_); refine g1_ ?_))
              refine nx_ (i + 1, b_, (r0 :: rows) ++ [encStep (stepE y p)]) ?_ ?_
              · exact ⟨⟨by omega, by simp only [List.length_append, List.length_cons, List.length_nil] at hi ⊢; omega⟩, by rw [Nat.max_eq_left (by omega), ← hr, List.append_assoc, List.singleton_append]⟩
              · ((try dsimp only); (try simp only [List.length_drop, List.length_take, List.length_append, List.length_cons, List.length_nil, List.length_map] at *); omega)
        · rw [Nat.max_eq_right (by omega)] at hr
          have hc : ¬ (Y : Int) < y ∧ ¬ atL (spotsL s) mx ≤ i := by
            by_cases hyY : y = Y
            · rw [if_pos hyY] at hkk; omega
            · rw [if_neg hyY] at hkk; omega
          obtain ⟨c1, c2⟩ := hc
          (refine g1_ ?_; repeat ((first | refine n1_ fun b_ => ?_ | refine n2_ fun b_ => ?_ | refine Nat1.mk fun q_ hq_ => ?_ | refine em_ fun x_ hx_ => ?_ | refine Elem1.mk fun e_ he_ => ?_); refine g1_ ?_))
          refine nx_ (i + 1, bo, rows) ?_ ?_
          · exact ⟨⟨by omega, by omega⟩, by rw [Nat.max_eq_right (by omega)]; exact hr⟩
          · ((try dsimp only); (try simp only [List.length_drop, List.length_take, List.length_append, List.length_cons, List.length_nil, List.length_map] at *); omega)
  rw [if_neg e9]
  unfold upS at e1
  unfold downS at e2
  unfold leftS at e3
  unfold rightS at e4
  unfold startS at e5
  unfold endS at e6
  unfold topS at e7
  unfold bottomS at e8
  unfold wordS at e9
  (refine g1_ ?_; repeat ((first | refine n1_ fun b_ => ?_ | refine n2_ fun b_ => ?_ | refine Nat1.mk fun q_ hq_ => ?_ | refine em_ fun x_ hx_ => ?_ | refine Elem1.mk fun e_ he_ => ?_); refine g1_ ?_))
  exact .refl _
end Go.Eng.YtdepccblnhkmkaaDoor
end

/- The law CopyMove. -/
section
namespace Go.Eng.YtdepccblnhkmkaaDoor
open Go Go.Eng Go.Proofs
variable (W : World)
set_option linter.unusedSimpArgs false
set_option maxRecDepth 100000
set_option linter.unusedVariables false
set_option maxHeartbeats 8000000
theorem endL_rng (s : List UInt8) : 0 ≤ endL s ∧ endL s ≤ 2 * s.length := by
  unfold endL
  split
  · rename_i p hp
    have := spots_x s p (List.mem_of_getLast? hp)
    omega
  · omega
theorem wordIn_rng (y : Int) : ∀ (l : List (Nat × Nat)) (b : Bool) (m : Mark), wordIn y b l = some m → m.y = y ∧ ∃ p ∈ l, m.x = p.2
  | [], _, _, h => by simp [wordIn] at h
  | p :: l, b, m, h => by
    rw [wordIn] at h
    split at h
    · cases h; exact ⟨rfl, p, List.mem_cons_self, rfl⟩
    · obtain ⟨h1, q, hq, h2⟩ := wordIn_rng y l _ m h
      exact ⟨h1, q, List.mem_cons_of_mem _ hq, h2⟩
theorem wordFrom_rng : ∀ (ls : List (List UInt8)) (y : Int) (b : Bool) (x : Int) (m : Mark), (∀ s ∈ ls, s.length ≤ 4000) → wordFrom ls y b x = some m → (y ≤ m.y ∧ m.y < y + ls.length) ∧ 0 ≤ m.x ∧ m.x ≤ 8000
  | [], _, _, _, _, _, h => by simp [wordFrom] at h
  | s :: ls, y, b, x, m, hb, h => by
    rw [wordFrom] at h
    split at h
    · rename_i m' hm'
      cases h
      obtain ⟨h1, p, hp, h2⟩ := wordIn_rng y _ b m hm'
      have h3 := spots_x s p (List.mem_of_mem_drop hp)
      have h4 := hb s List.mem_cons_self
      rw [List.length_cons]
      omega
    · have := wordFrom_rng ls (y + 1) true 0 m (fun t ht => hb t (List.mem_cons_of_mem _ ht)) h
      rw [List.length_cons]
      omega
theorem getD_le {ls : List (List UInt8)} (hb : ∀ s ∈ ls, s.length ≤ 4000) (i : Nat) : (ls.getD i []).length ≤ 4000 := by
  rw [List.getD_eq_getElem?_getD]
  cases he : ls[i]? with
  | none => simp
  | some s => simpa using hb s (List.mem_of_getElem? he)
theorem spot_getD (s : List UInt8) (i : Nat) : ((spotsL s).getD i (0, 0)).2 ≤ 2 * s.length := by
  rw [List.getD_eq_getElem?_getD]
  cases he : (spotsL s)[i]? with
  | none => simp
  | some p => simpa using spots_x s p (List.mem_of_getElem? he)
theorem wordL_rng (ls : List (List UInt8)) (m : Mark) (h0 : 0 ≤ m.y ∧ m.y < ls.length) (hl : ls.length ≤ 110) (hb : ∀ s ∈ ls, s.length ≤ 4000) : ((-1 ≤ (wordL ls m).y ∧ (wordL ls m).y ≤ 120) ∧ 0 ≤ (wordL ls m).x ∧ (wordL ls m).x ≤ 8000) := by
  unfold wordL
  cases hw : wordFrom (ls.drop m.y.toNat) m.y false m.x with
  | some r =>
    have := wordFrom_rng _ _ _ _ r (fun s hs => hb s (List.mem_of_mem_drop hs)) hw
    rw [List.length_drop] at this
    simp only [Option.getD_some]
    omega
  | none =>
    have h1 := endL_rng (ls.getLast?.getD [])
    have h2 : (ls.getLast?.getD []).length ≤ 4000 := by
      cases he : ls.getLast? with
      | none => simp
      | some s => simpa using hb s (List.mem_of_getLast? he)
    simp only [Option.getD_none]
    omega
theorem moveM_rng (ls : List (List UInt8)) (m : Mark) (how : List UInt8) (r : Mark) (h : moveM ls m how = some r) (h0 : 0 ≤ m.y ∧ m.y < ls.length ∧ 0 ≤ m.x ∧ m.x ≤ 120) (hl : ls.length ≤ 110) (hb : ∀ s ∈ ls, s.length ≤ 4000) : ((-1 ≤ r.y ∧ r.y ≤ 120) ∧ 0 ≤ r.x ∧ r.x ≤ 8000) := by
  have hw := wordL_rng ls m ⟨h0.1, h0.2.1⟩ hl hb
  have e1 := endL_rng (ls.getD m.y.toNat [])
  have e2 := getD_le hb m.y.toNat
  have e3 := endL_rng (ls.getD (m.y - 1).toNat [])
  have e4 := getD_le hb (m.y - 1).toNat
  have e5 := spot_getD (ls.getD m.y.toNat []) (atL (spotsL (ls.getD m.y.toNat [])) m.x - 1).toNat
  have e6 := spot_getD (ls.getD m.y.toNat []) (atL (spotsL (ls.getD m.y.toNat [])) m.x + 1).toNat
  unfold moveM at h
  dsimp only at h
  (repeat' split at h) <;> first | (cases h; done) | (have h' := Option.some.inj h; subst h'; (try dsimp only [noMark]); omega) | (have h' := Option.some.inj h; subst h'; exact hw)
theorem begin_rng (ls : List (List UInt8)) (hl : ls.length ≤ 17592186044416) : (beginE ls).1.ok := by
  unfold beginE
  split
  · exact (by decide : noCopying.ok)
  · refine ⟨⟨?_, ?_⟩, (by decide : noMark.ok)⟩ <;> (dsimp only; unfold i64ok; omega)
theorem copyMove_ok (hT : Tabs W) (ls : List (List UInt8)) (hk : ∀ s ∈ ls, True) (hf : ls.length * 16 ≤ 140737488351232 ∧ ∀ s ∈ ls, s.length ≤ 140737488351232) (c : Copying) (hc : c.ok) (how : List UInt8) (hh : how.length ≤ 140737488355328) :
    Pure Tryd.prog W 6 [encLines ls, encCopying c, .str how] (.bool true) := by
  have hl : ls.length ≤ 17592186044416 := by omega
  have hb : ∀ s ∈ ls, s.length ≤ 140737488355328 := fun s hs => by have := hf.2 s hs; omega
  have hck := badCopy_ok W ls c hl hb
  have hck2 := checkCopy_ok W ls c hl hb
  have hck0 := badCopy_ok W ls noCopying hl hb
  have hmo := move_ok W hT ls c how hl hb
  have hbe := begin_ok W ls hl hb
  have hbo := begin_rng ls hl
  have hco := copied_ok W hT
  have hlm : (ls.map PV.str).length = ls.length := List.length_map _
  obtain ⟨⟨xc, xe⟩, hX⟩ : ∃ X, moveE ls c how = X := ⟨_, rfl⟩
  obtain ⟨⟨bc, be⟩, hB⟩ : ∃ B, beginE ls = B := ⟨_, rfl⟩
  rw [hX] at hmo
  rw [hB] at hbe hbo
  dsimp only at hmo hbe hbo
  refine Pure.of (acalls_of_vc (drawOk W) Tryd.func6 rfl (by decide) (by decide) rfl ?_)
  (refine g0_ ?_; repeat ((first | refine n1_ fun b_ => ?_ | refine n2_ fun b_ => ?_ | refine Nat1.mk fun q_ hq_ => ?_ | refine em_ fun x_ hx_ => ?_ | refine Elem1.mk fun e_ he_ => ?_); refine g0_ ?_))
  refine (hmo).use ?_; (refine g0_ ?_; repeat ((first | refine n1_ fun b_ => ?_ | refine n2_ fun b_ => ?_ | refine Nat1.mk fun q_ hq_ => ?_ | refine em_ fun x_ hx_ => ?_ | refine Elem1.mk fun e_ he_ => ?_); refine g0_ ?_))
  refine (hbe).use ?_; (refine g0_ ?_; repeat ((first | refine n1_ fun b_ => ?_ | refine n2_ fun b_ => ?_ | refine Nat1.mk fun q_ hq_ => ?_ | refine em_ fun x_ hx_ => ?_ | refine Elem1.mk fun e_ he_ => ?_); refine g0_ ?_))
  refine (hck).use ?_; (refine g0_ ?_; repeat ((first | refine n1_ fun b_ => ?_ | refine n2_ fun b_ => ?_ | refine Nat1.mk fun q_ hq_ => ?_ | refine em_ fun x_ hx_ => ?_ | refine Elem1.mk fun e_ he_ => ?_); refine g0_ ?_))
  refine (hco).use ?_; (refine g0_ ?_; repeat ((first | refine n1_ fun b_ => ?_ | refine n2_ fun b_ => ?_ | refine Nat1.mk fun q_ hq_ => ?_ | refine em_ fun x_ hx_ => ?_ | refine Elem1.mk fun e_ he_ => ?_); refine g0_ ?_))
  (refine g1_ ?_; repeat ((first | refine n1_ fun b_ => ?_ | refine n2_ fun b_ => ?_ | refine Nat1.mk fun q_ hq_ => ?_ | refine em_ fun x_ hx_ => ?_ | refine Elem1.mk fun e_ he_ => ?_); refine g1_ ?_))
  refine (hck2).use ?_; (refine g0_ ?_; repeat ((first | refine n1_ fun b_ => ?_ | refine n2_ fun b_ => ?_ | refine Nat1.mk fun q_ hq_ => ?_ | refine em_ fun x_ hx_ => ?_ | refine Elem1.mk fun e_ he_ => ?_); refine g0_ ?_))
  (refine g1_ ?_; repeat ((first | refine n1_ fun b_ => ?_ | refine n2_ fun b_ => ?_ | refine Nat1.mk fun q_ hq_ => ?_ | refine em_ fun x_ hx_ => ?_ | refine Elem1.mk fun e_ he_ => ?_); refine g1_ ?_))
  refine hck0.use ?_
  (refine gdj_ ?_; repeat ((first | refine n1_ fun b_ => ?_ | refine n2_ fun b_ => ?_ | refine Nat1.mk fun q_ hq_ => ?_ | refine em_ fun x_ hx_ => ?_ | refine Elem1.mk fun e_ he_ => ?_); refine gdj_ ?_))
  rename_i bc4 bX
  obtain ⟨bB, rfl⟩ : ∃ bW, bW = b_ := ⟨_, rfl⟩
  first | refine' joinT (α := Unit) (fun u => []) [(0, _), (2, _), (4, _), (7, _), (8, _), (11, _)] (fun u => [⟨bX, .row 5 [encCopying xc] 0⟩, ⟨bc4, .row 5 [encCopying c] 0⟩]) (fun u => True) ?_ ?_ | refine' joinF (α := Unit) (fun u => []) [(0, _), (2, _), (4, _), (7, _), (8, _), (11, _)] (fun u => [⟨bX, .row 5 [encCopying xc] 0⟩, ⟨bc4, .row 5 [encCopying c] 0⟩]) (fun u => True) ?_ ?_
  · unfold beginE at hB
    by_cases h0 : checkC ls noCopying = 0
    · rw [if_neg (by simpa using h0)] at hB
      cases hB
      rw [h0]
      (refine g1_ ?_; repeat ((first | refine n1_ fun b_ => ?_ | refine n2_ fun b_ => ?_ | refine Nat1.mk fun q_ hq_ => ?_ | refine em_ fun x_ hx_ => ?_ | refine Elem1.mk fun e_ he_ => ?_); refine g1_ ?_))
      rw [hlm]
      refine ⟨_, neq_copying ⟨⟨0, (ls.length : Int) - 1⟩, noMark, false⟩ ⟨⟨0, (ls.length : Int) - 1⟩, noMark, false⟩ hbo hbo _ _, ?_⟩
      rw [decide_eq_true rfl, Bool.not_true]
      (refine g1_ ?_; repeat ((first | refine n1_ fun b_ => ?_ | refine n2_ fun b_ => ?_ | refine Nat1.mk fun q_ hq_ => ?_ | refine em_ fun x_ hx_ => ?_ | refine Elem1.mk fun e_ he_ => ?_); refine g1_ ?_))
      refine jx_ () ?_
      trivial
    · rw [if_pos h0] at hB
      cases hB
      (refine g1_ ?_; repeat ((first | refine n1_ fun b_ => ?_ | refine n2_ fun b_ => ?_ | refine Nat1.mk fun q_ hq_ => ?_ | refine em_ fun x_ hx_ => ?_ | refine Elem1.mk fun e_ he_ => ?_); refine g1_ ?_))
      refine ⟨_, neq_copying noCopying noCopying hbo hbo _ _, ?_⟩
      rw [decide_eq_true rfl, Bool.not_true]
      (refine g1_ ?_; repeat ((first | refine n1_ fun b_ => ?_ | refine n2_ fun b_ => ?_ | refine Nat1.mk fun q_ hq_ => ?_ | refine em_ fun x_ hx_ => ?_ | refine Elem1.mk fun e_ he_ => ?_); refine g1_ ?_))
      refine jx_ () ?_
      trivial
  rintro - -
  unfold moveE at hX
  by_cases h : checkC ls c = 0
  · rw [if_neg (by simpa using h)] at hX
    obtain ⟨g1, g2, g3, g4⟩ := check_zero h
    have hw := wentTo_ok W hT ls c.at_ how g3.1 g3.2.1 g3.2.2 g1.2 g2
    rw [h]
    unfold moveB at hX
    unfold wentV at hw
    cases hm : moveM ls c.at_ how with
    | none =>
      rw [hm] at hX hw
      dsimp only at hX hw
      rw [if_neg (by decide)] at hX
      cases hX
      (refine g1_ ?_; repeat ((first | refine n1_ fun b_ => ?_ | refine n2_ fun b_ => ?_ | refine Nat1.mk fun q_ hq_ => ?_ | refine em_ fun x_ hx_ => ?_ | refine Elem1.mk fun e_ he_ => ?_); refine g1_ ?_))
      refine (hw).use ?_; (refine g0_ ?_; repeat ((first | refine n1_ fun b_ => ?_ | refine n2_ fun b_ => ?_ | refine Nat1.mk fun q_ hq_ => ?_ | refine em_ fun x_ hx_ => ?_ | refine Elem1.mk fun e_ he_ => ?_); refine g0_ ?_))
      (refine g1_ ?_; repeat ((first | refine n1_ fun b_ => ?_ | refine n2_ fun b_ => ?_ | refine Nat1.mk fun q_ hq_ => ?_ | refine em_ fun x_ hx_ => ?_ | refine Elem1.mk fun e_ he_ => ?_); refine g1_ ?_))
      refine ⟨_, eq_copying noCopying noCopying (by decide) (by decide) _ _, ?_⟩
      rw [decide_eq_true rfl]
      (refine g1_ ?_; repeat ((first | refine n1_ fun b_ => ?_ | refine n2_ fun b_ => ?_ | refine Nat1.mk fun q_ hq_ => ?_ | refine em_ fun x_ hx_ => ?_ | refine Elem1.mk fun e_ he_ => ?_); refine g1_ ?_))
      exact .refl _
    | some r =>
      rw [hm] at hX hw
      have hr := moveM_rng ls c.at_ how r hm g3 g1.2 g2
      dsimp only at hX hw
      rw [if_pos rfl] at hX
      cases hX
      have hxo : Copying.ok ⟨⟨min r.x 120, r.y⟩, c.from_, c.on⟩ := ⟨⟨by dsimp only; unfold i64ok; omega, by dsimp only; unfold i64ok; omega⟩, hc.2⟩
      (refine g1_ ?_; repeat ((first | refine n1_ fun b_ => ?_ | refine n2_ fun b_ => ?_ | refine Nat1.mk fun q_ hq_ => ?_ | refine em_ fun x_ hx_ => ?_ | refine Elem1.mk fun e_ he_ => ?_); refine g1_ ?_))
      refine (hw).use ?_; (refine g0_ ?_; repeat ((first | refine n1_ fun b_ => ?_ | refine n2_ fun b_ => ?_ | refine Nat1.mk fun q_ hq_ => ?_ | refine em_ fun x_ hx_ => ?_ | refine Elem1.mk fun e_ he_ => ?_); refine g0_ ?_))
      (refine g1_ ?_; repeat ((first | refine n1_ fun b_ => ?_ | refine n2_ fun b_ => ?_ | refine Nat1.mk fun q_ hq_ => ?_ | refine em_ fun x_ hx_ => ?_ | refine Elem1.mk fun e_ he_ => ?_); refine g1_ ?_))
      rw [show (if (120 : Int) < r.x then (120 : Int) else r.x) = min r.x 120 by split <;> omega]
      (refine g1_ ?_; repeat ((first | refine n1_ fun b_ => ?_ | refine n2_ fun b_ => ?_ | refine Nat1.mk fun q_ hq_ => ?_ | refine em_ fun x_ hx_ => ?_ | refine Elem1.mk fun e_ he_ => ?_); refine g1_ ?_))
      refine ⟨_, eq_copying ⟨⟨min r.x 120, r.y⟩, c.from_, c.on⟩ ⟨⟨min r.x 120, r.y⟩, c.from_, c.on⟩ hxo hxo _ _, ?_⟩
      (refine g1_ ?_; repeat ((first | refine n1_ fun b_ => ?_ | refine n2_ fun b_ => ?_ | refine Nat1.mk fun q_ hq_ => ?_ | refine em_ fun x_ hx_ => ?_ | refine Elem1.mk fun e_ he_ => ?_); refine g1_ ?_))
      exact Frz.of_eq (by simp)
  · rw [if_pos h] at hX
    cases hX
    (refine g1_ ?_; repeat ((first | refine n1_ fun b_ => ?_ | refine n2_ fun b_ => ?_ | refine Nat1.mk fun q_ hq_ => ?_ | refine em_ fun x_ hx_ => ?_ | refine Elem1.mk fun e_ he_ => ?_); refine g1_ ?_))
    refine ⟨_, eq_copying noCopying noCopying (by decide) (by decide) _ _, ?_⟩
    rw [decide_eq_true rfl]
    (refine g1_ ?_; repeat ((first | refine n1_ fun b_ => ?_ | refine n2_ fun b_ => ?_ | refine Nat1.mk fun q_ hq_ => ?_ | refine em_ fun x_ hx_ => ?_ | refine Elem1.mk fun e_ he_ => ?_); refine g1_ ?_))
    exact .refl _
end Go.Eng.YtdepccblnhkmkaaDoor
end
