/- Texts put together: Copy, Copy2, Copy3, Copy4. -/
import Derived.Test.YtdepccblnhkmkaaDoorMT1
/- Lines that are copied from: where runes stand. -/
section
namespace Go.Eng.YtdepccblnhkmkaaDoor
open Go Go.Eng Go.Proofs
variable (W : World)
set_option linter.unusedSimpArgs false
set_option maxRecDepth 100000
set_option linter.unusedVariables false
set_option maxHeartbeats 4000000
def spotsL (s : List UInt8) : List (Nat × Nat) := spotsRs 0 (runes s)
theorem places_ok (hT : Tabs W) (s : List UInt8) (hs : s.length ≤ 1048576) : Pure Tryd.prog W 26 [.str s] (.sl 2 ((spotsL s).map encSpot)) := by
  refine Pure.of (acalls_of_vc (drawOk W) Tryd.func26 rfl (by decide) (by decide) rfl ?_)
  (refine g0_ ?_; repeat ((first | refine n1_ fun b_ => ?_ | refine n2_ fun b_ => ?_ | refine Nat1.mk fun q_ hq_ => ?_ | refine em_ fun x_ hx_ => ?_ | refine Elem1.mk fun e_ he_ => ?_); refine g0_ ?_))
  refine' loopI (α := (List UInt8) × Nat × Nat × (List PV)) (fun (r, x, b, a) => [(0, .str r), (4, .int .i64 x), (3, accV b 2 a)]) [] (fun (r, x, b, a) => accM b 2 a) (fun (r, x, b, a) => a ++ (spotsRs x (runes r)).map encSpot = (spotsL s).map encSpot ∧ r.length ≤ s.length ∧ a.length + r.length ≤ s.length ∧ x ≤ 2 * (s.length - r.length)) (fun (r, x, b, a) => r.length) (s, 0, 0, []) ?_ ?_
  · exact ⟨rfl, Nat.le_refl _, by simp, Nat.zero_le _⟩
  rintro ⟨r, x, b, a⟩ ⟨hn, hl, hal, hx⟩
  rcases a with _ | ⟨y, a⟩
  · (refine g0_ ?_; repeat ((first | refine n1_ fun b_ => ?_ | refine n2_ fun b_ => ?_ | refine Nat1.mk fun q_ hq_ => ?_ | refine em_ fun x_ hx_ => ?_ | refine Elem1.mk fun e_ he_ => ?_); refine g0_ ?_))
    refine brec ?_; intro c_ h; (try rw [h]); cases c_ <;> replace h := nm_ h
    · subst h
      rw [runes_nil, spotsRs, List.map_nil, List.append_nil] at hn
      (refine g0_ ?_; repeat ((first | refine n1_ fun b_ => ?_ | refine n2_ fun b_ => ?_ | refine Nat1.mk fun q_ hq_ => ?_ | refine em_ fun x_ hx_ => ?_ | refine Elem1.mk fun e_ he_ => ?_); refine g0_ ?_))
      rw [← hn]
      exact .nils _
    · have hd := dec_le r
      have hp := dec_pos r h
      have h3 : 0 < r.length := List.length_pos_iff.2 h
      have hn2 := nextL_of h
      have hwl := widthL_le (dec r).1
      rw [runes_cons h, spotsRs] at hn
      (refine g0_ ?_; repeat ((first | refine n1_ fun b_ => ?_ | refine n2_ fun b_ => ?_ | refine Nat1.mk fun q_ hq_ => ?_ | refine em_ fun x_ hx_ => ?_ | refine Elem1.mk fun e_ he_ => ?_); refine g0_ ?_))
      refine (next_ok W hT r).use ?_; (refine g0_ ?_; repeat ((first | refine n1_ fun b_ => ?_ | refine n2_ fun b_ => ?_ | refine Nat1.mk fun q_ hq_ => ?_ | refine em_ fun x_ hx_ => ?_ | refine Elem1.mk fun e_ he_ => ?_); refine g0_ ?_))
      refine (width_ok W _).use ?_; (refine g0_ ?_; repeat ((first | refine n1_ fun b_ => ?_ | refine n2_ fun b_ => ?_ | refine Nat1.mk fun q_ hq_ => ?_ | refine em_ fun x_ hx_ => ?_ | refine Elem1.mk fun e_ he_ => ?_); refine g0_ ?_))
      rw [hn2]
      (refine g0_ ?_; repeat ((first | refine n1_ fun b_ => ?_ | refine n2_ fun b_ => ?_ | refine Nat1.mk fun q_ hq_ => ?_ | refine em_ fun x_ hx_ => ?_ | refine Elem1.mk fun e_ he_ => ?_); refine g0_ ?_))
      refine brec ?_; intro c_ h2; (try rw [h2]); cases c_ <;> replace h2 := nm_ h2
      · rw [if_neg (by omega)] at hn
        (refine g0_ ?_; repeat ((first | refine n1_ fun b_ => ?_ | refine n2_ fun b_ => ?_ | refine Nat1.mk fun q_ hq_ => ?_ | refine em_ fun x_ hx_ => ?_ | refine Elem1.mk fun e_ he_ => ?_); refine g0_ ?_))
        refine nx_ (r.drop (dec r).2, x, b, []) ?_ ?_
        · exact ⟨hn, by ((try dsimp only); (try simp only [List.length_drop, List.length_take, List.length_append, List.length_cons, List.length_nil, List.length_map] at *); omega), by (try simp at hal ⊢); (try omega), by simp; omega⟩
        · ((try dsimp only); (try simp only [List.length_drop, List.length_take, List.length_append, List.length_cons, List.length_nil, List.length_map] at *); omega)
      · rw [if_pos (by omega)] at hn
        (refine g0_ ?_; repeat ((first | refine n1_ fun b_ => ?_ | refine n2_ fun b_ => ?_ | refine Nat1.mk fun q_ hq_ => ?_ | refine em_ fun x_ hx_ => ?_ | refine Elem1.mk fun e_ he_ => ?_); refine g0_ ?_))
        refine .inl ?_
        (refine g0_ ?_; repeat ((first | refine n1_ fun b_ => ?_ | refine n2_ fun b_ => ?_ | refine Nat1.mk fun q_ hq_ => ?_ | refine em_ fun x_ hx_ => ?_ | refine Elem1.mk fun e_ he_ => ?_); refine g0_ ?_))
        refine nx_ (r.drop (dec r).2, x + widthL (dec r).1, b_, [] ++ [encSpot ((dec r).1, x)]) ?_ ?_
        · exact ⟨by rw [← hn]; simp, by ((try dsimp only); (try simp only [List.length_drop, List.length_take, List.length_append, List.length_cons, List.length_nil, List.length_map] at *); omega), by (try simp at hal ⊢); (try omega), by simp; omega⟩
        · ((try dsimp only); (try simp only [List.length_drop, List.length_take, List.length_append, List.length_cons, List.length_nil, List.length_map] at *); omega)
  · simp only [List.length_cons] at hal
    (refine g0_ ?_; repeat ((first | refine n1_ fun b_ => ?_ | refine n2_ fun b_ => ?_ | refine Nat1.mk fun q_ hq_ => ?_ | refine em_ fun x_ hx_ => ?_ | refine Elem1.mk fun e_ he_ => ?_); refine g0_ ?_))
    refine brec ?_; intro c_ h; (try rw [h]); cases c_ <;> replace h := nm_ h
    · subst h
      rw [runes_nil, spotsRs, List.map_nil, List.append_nil] at hn
      (refine g0_ ?_; repeat ((first | refine n1_ fun b_ => ?_ | refine n2_ fun b_ => ?_ | refine Nat1.mk fun q_ hq_ => ?_ | refine em_ fun x_ hx_ => ?_ | refine Elem1.mk fun e_ he_ => ?_); refine g0_ ?_))
      rw [← hn]
      exact frz_row (.here _ _ _) _ (by simp)
    · have hd := dec_le r
      have hp := dec_pos r h
      have h3 : 0 < r.length := List.length_pos_iff.2 h
      have hn2 := nextL_of h
      have hwl := widthL_le (dec r).1
      rw [runes_cons h, spotsRs] at hn
      (refine g0_ ?_; repeat ((first | refine n1_ fun b_ => ?_ | refine n2_ fun b_ => ?_ | refine Nat1.mk fun q_ hq_ => ?_ | refine em_ fun x_ hx_ => ?_ | refine Elem1.mk fun e_ he_ => ?_); refine g0_ ?_))
      refine (next_ok W hT r).use ?_; (refine g0_ ?_; repeat ((first | refine n1_ fun b_ => ?_ | refine n2_ fun b_ => ?_ | refine Nat1.mk fun q_ hq_ => ?_ | refine em_ fun x_ hx_ => ?_ | refine Elem1.mk fun e_ he_ => ?_); refine g0_ ?_))
      refine (width_ok W _).use ?_; (refine g0_ ?_; repeat ((first | refine n1_ fun b_ => ?_ | refine n2_ fun b_ => ?_ | refine Nat1.mk fun q_ hq_ => ?_ | refine em_ fun x_ hx_ => ?_ | refine Elem1.mk fun e_ he_ => ?_); refine g0_ ?_))
      rw [hn2]
      (refine g0_ ?_; repeat ((first | refine n1_ fun b_ => ?_ | refine n2_ fun b_ => ?_ | refine Nat1.mk fun q_ hq_ => ?_ | refine em_ fun x_ hx_ => ?_ | refine Elem1.mk fun e_ he_ => ?_); refine g0_ ?_))
      refine brec ?_; intro c_ h2; (try rw [h2]); cases c_ <;> replace h2 := nm_ h2
      · rw [if_neg (by omega)] at hn
        (refine g0_ ?_; repeat ((first | refine n1_ fun b_ => ?_ | refine n2_ fun b_ => ?_ | refine Nat1.mk fun q_ hq_ => ?_ | refine em_ fun x_ hx_ => ?_ | refine Elem1.mk fun e_ he_ => ?_); refine g0_ ?_))
        refine nx_ (r.drop (dec r).2, x, b, (y :: a)) ?_ ?_
        · exact ⟨hn, by ((try dsimp only); (try simp only [List.length_drop, List.length_take, List.length_append, List.length_cons, List.length_nil, List.length_map] at *); omega), by (try simp at hal ⊢); (try omega), by simp; omega⟩
        · ((try dsimp only); (try simp only [List.length_drop, List.length_take, List.length_append, List.length_cons, List.length_nil, List.length_map] at *); omega)
      · rw [if_pos (by omega)] at hn
        (refine g0_ ?_; repeat ((first | refine n1_ fun b_ => ?_ | refine n2_ fun b_ => ?_ | refine Nat1.mk fun q_ hq_ => ?_ | refine em_ fun x_ hx_ => ?_ | refine Elem1.mk fun e_ he_ => ?_); refine g0_ ?_))
        refine .inl ?_
        (refine g0_ ?_; repeat ((first | refine n1_ fun b_ => ?_ | refine n2_ fun b_ => ?_ | refine Nat1.mk fun q_ hq_ => ?_ | refine em_ fun x_ hx_ => ?_ | refine Elem1.mk fun e_ he_ => ?_); refine g0_ ?_))
        refine nx_ (r.drop (dec r).2, x + widthL (dec r).1, b_, (y :: a) ++ [encSpot ((dec r).1, x)]) ?_ ?_
        · exact ⟨by rw [← hn]; simp, by ((try dsimp only); (try simp only [List.length_drop, List.length_take, List.length_append, List.length_cons, List.length_nil, List.length_map] at *); omega), by (try simp at hal ⊢); (try omega), by simp; omega⟩
        · ((try dsimp only); (try simp only [List.length_drop, List.length_take, List.length_append, List.length_cons, List.length_nil, List.length_map] at *); omega)
/-- One more than the number of the spot that stands at a column, among the first n; 0: none. -/
def atF (l : List (Nat × Nat)) (x : Int) : Nat → Nat
  | 0 => 0
  | n + 1 => match l[n]? with
    | some p => if x < p.2 then atF l x n else n + 1
    | none => n + 1
def atL (l : List (Nat × Nat)) (x : Int) : Int := (atF l x l.length : Nat) - 1
theorem places_mono : ∀ (l : List (Nat × Nat)) (x : Nat) (i : Nat) p, (spotsRs x l)[i]? = some p → x ≤ p.2
  | [], x, i, p, h => by simp [spotsRs] at h
  | q :: l, x, i, p, h => by
    rw [spotsRs] at h
    split at h
    · cases i with
      | zero => obtain rfl := Option.some.inj h; exact Nat.le_refl _
      | succ i =>
        have := places_mono l _ i p (by simpa using h)
        omega
    · exact places_mono l x i p h
structure Mark where
  x : Int
  y : Int
  deriving DecidableEq
structure Copying where
  at_ : Mark
  from_ : Mark
  on : Bool
  deriving DecidableEq
def encMark (m : Mark) : PV := .agg [.int .i64 m.x, .int .i64 m.y]
def encCopying (c : Copying) : PV := .agg [.int .i64 c.at_.x, .int .i64 c.at_.y, .int .i64 c.from_.x, .int .i64 c.from_.y, .bool c.on]
def encLines (l : List (List UInt8)) : PV := .sl 1 (l.map PV.str)
def badM (n : Nat) (m : Mark) : Bool := decide (m.y < 0 ∨ (n : Int) ≤ m.y ∨ m.x < 0 ∨ 120 < m.x)
/-- What a check of lines and a place in them answers. -/
def checkC (l : List (List UInt8)) (c : Copying) : Int :=
  if l.length < 1 ∨ 110 < l.length then 2
  else if l.any (fun s => decide (4000 < s.length)) then 2
  else if badM l.length c.at_ ∨ badM l.length c.from_ then 4 else 0
theorem checkCopy_ok (l : List (List UInt8)) (c : Copying) (hl : l.length ≤ 17592186044416) (hb : ∀ s ∈ l, s.length ≤ 140737488355328) : Pure Tryd.prog W 20 [encLines l, encCopying c] (.int .i64 (checkC l c)) := by
  have hlm : (l.map PV.str).length = l.length := List.length_map _
  rw [encLines]
  refine Pure.of (acalls_of_vc (drawOk W) Tryd.func20 rfl (by decide) (by decide) rfl ?_)
  (refine g0_ ?_; repeat ((first | refine n1_ fun b_ => ?_ | refine n2_ fun b_ => ?_ | refine Nat1.mk fun q_ hq_ => ?_ | refine em_ fun x_ hx_ => ?_ | refine Elem1.mk fun e_ he_ => ?_); refine g0_ ?_))
  refine brec ?_; intro c_ h1; (try rw [h1]); cases c_ <;> replace h1 := nm_ h1
  · rw [hlm] at h1
    have hE1 : checkC l c = if l.any (fun s => decide (4000 < s.length)) then 2 else if badM l.length c.at_ ∨ badM l.length c.from_ then 4 else 0 := by rw [checkC, if_neg (by omega)]
    rw [hE1]
    obtain ⟨b1, rfl⟩ : ∃ b1, b1 = b_ := ⟨_, rfl⟩
    refine' loopI (α := Nat) (fun i => [(19, .int .i64 i)]) [(0, _), (3, _), (17, _), (18, _)] (fun i => [⟨b1, .row 5 [encCopying c] 0⟩]) (fun i => i ≤ l.length ∧ (l.take i).any (fun s => decide (4000 < s.length)) = false) (fun i => l.length - i) 0 ?_ ?_
    · exact ⟨Nat.zero_le _, rfl⟩
    rintro i ⟨hi, ha⟩
    (refine g0_ ?_; repeat ((first | refine n1_ fun b_ => ?_ | refine n2_ fun b_ => ?_ | refine Nat1.mk fun q_ hq_ => ?_ | refine em_ fun x_ hx_ => ?_ | refine Elem1.mk fun e_ he_ => ?_); refine g0_ ?_))
    refine brec ?_; intro c_ h2; (try rw [h2]); cases c_ <;> replace h2 := nm_ h2
    · rw [hlm] at h2
      have : i = l.length := by omega
      subst this
      rw [List.take_length] at ha
      rw [ha, if_neg (by decide)]
      (refine g0_ ?_; repeat ((first | refine n1_ fun b_ => ?_ | refine n2_ fun b_ => ?_ | refine Nat1.mk fun q_ hq_ => ?_ | refine em_ fun x_ hx_ => ?_ | refine Elem1.mk fun e_ he_ => ?_); refine g0_ ?_))
      refine .run ⟨3, ?_⟩
      (refine g0_ ?_; repeat ((first | refine n1_ fun b_ => ?_ | refine n2_ fun b_ => ?_ | refine Nat1.mk fun q_ hq_ => ?_ | refine em_ fun x_ hx_ => ?_ | refine Elem1.mk fun e_ he_ => ?_); refine g0_ ?_))
      refine brec ?_; intro c_ h4; (try rw [h4]); cases c_ <;> replace h4 := nm_ h4
      · rw [hlm] at h4
        have b0 : badM l.length c.at_ = false := by rw [badM, decide_eq_false_iff_not]; omega
        (refine g0_ ?_; repeat ((first | refine n1_ fun b_ => ?_ | refine n2_ fun b_ => ?_ | refine Nat1.mk fun q_ hq_ => ?_ | refine em_ fun x_ hx_ => ?_ | refine Elem1.mk fun e_ he_ => ?_); refine g0_ ?_))
        refine brec ?_; intro c_ h5; (try rw [h5]); cases c_ <;> replace h5 := nm_ h5
        · rw [hlm] at h5
          have b2 : badM l.length c.from_ = false := by rw [badM, decide_eq_false_iff_not]; omega
          rw [b0, b2, if_neg (by decide)]
          (refine g0_ ?_; repeat ((first | refine n1_ fun b_ => ?_ | refine n2_ fun b_ => ?_ | refine Nat1.mk fun q_ hq_ => ?_ | refine em_ fun x_ hx_ => ?_ | refine Elem1.mk fun e_ he_ => ?_); refine g0_ ?_))
          exact .refl _
        · rw [hlm] at h5
          have b2 : badM l.length c.from_ = true := by rw [badM, decide_eq_true_eq]; omega
          rw [b2, if_pos (.inr rfl)]
          (refine g0_ ?_; repeat ((first | refine n1_ fun b_ => ?_ | refine n2_ fun b_ => ?_ | refine Nat1.mk fun q_ hq_ => ?_ | refine em_ fun x_ hx_ => ?_ | refine Elem1.mk fun e_ he_ => ?_); refine g0_ ?_))
          exact .refl _
      · rw [hlm] at h4
        have b0 : badM l.length c.at_ = true := by rw [badM, decide_eq_true_eq]; omega
        rw [b0, if_pos (.inl rfl)]
        (refine g0_ ?_; repeat ((first | refine n1_ fun b_ => ?_ | refine n2_ fun b_ => ?_ | refine Nat1.mk fun q_ hq_ => ?_ | refine em_ fun x_ hx_ => ?_ | refine Elem1.mk fun e_ he_ => ?_); refine g0_ ?_))
        exact .refl _
    · rw [hlm] at h2
      obtain ⟨s, hs⟩ : ∃ s, l[i]? = some s := ⟨l[i]'(by omega), List.getElem?_eq_getElem _⟩
      have hsm := List.mem_of_getElem? hs
      have hsb := hb s hsm
      have htk := take_snoc_of hs
      (refine g0_ ?_; repeat ((first | refine n1_ fun b_ => ?_ | refine n2_ fun b_ => ?_ | refine Nat1.mk fun q_ hq_ => ?_ | refine em_ fun x_ hx_ => ?_ | refine Elem1.mk fun e_ he_ => ?_); refine g0_ ?_))
      refine brec ?_; intro c_ h3; (try rw [h3]); cases c_ <;> replace h3 := nm_ h3
      · (refine g0_ ?_; repeat ((first | refine n1_ fun b_ => ?_ | refine n2_ fun b_ => ?_ | refine Nat1.mk fun q_ hq_ => ?_ | refine em_ fun x_ hx_ => ?_ | refine Elem1.mk fun e_ he_ => ?_); refine g0_ ?_))
        refine nx_ (i + 1) ?_ ?_
        · exact ⟨by omega, by rw [htk, List.any_append, ha]; simp; omega⟩
        · ((try dsimp only); (try simp only [List.length_drop, List.length_take, List.length_append, List.length_cons, List.length_nil, List.length_map] at *); omega)
      · rw [if_pos (List.any_eq_true.2 ⟨s, hsm, by simp; omega⟩)]
        (refine g0_ ?_; repeat ((first | refine n1_ fun b_ => ?_ | refine n2_ fun b_ => ?_ | refine Nat1.mk fun q_ hq_ => ?_ | refine em_ fun x_ hx_ => ?_ | refine Elem1.mk fun e_ he_ => ?_); refine g0_ ?_))
        exact .refl _
  · rw [hlm] at h1
    rw [checkC, if_pos (by omega)]
    (refine g0_ ?_; repeat ((first | refine n1_ fun b_ => ?_ | refine n2_ fun b_ => ?_ | refine Nat1.mk fun q_ hq_ => ?_ | refine em_ fun x_ hx_ => ?_ | refine Elem1.mk fun e_ he_ => ?_); refine g0_ ?_))
    exact .refl _
theorem badCopy_ok (l : List (List UInt8)) (c : Copying) (hl : l.length ≤ 17592186044416) (hb : ∀ s ∈ l, s.length ≤ 140737488355328) : Pure Tryd.prog W 10 [encLines l, encCopying c] (.int .i64 (checkC l c)) := by
  have hlm : (l.map PV.str).length = l.length := List.length_map _
  rw [encLines]
  refine Pure.of (acalls_of_vc (drawOk W) Tryd.func10 rfl (by decide) (by decide) rfl ?_)
  (refine g0_ ?_; repeat ((first | refine n1_ fun b_ => ?_ | refine n2_ fun b_ => ?_ | refine Nat1.mk fun q_ hq_ => ?_ | refine em_ fun x_ hx_ => ?_ | refine Elem1.mk fun e_ he_ => ?_); refine g0_ ?_))
  refine brec ?_; intro c_ h1; (try rw [h1]); cases c_ <;> replace h1 := nm_ h1
  · rw [hlm] at h1
    have hE1 : checkC l c = if l.any (fun s => decide (4000 < s.length)) then 2 else if badM l.length c.at_ ∨ badM l.length c.from_ then 4 else 0 := by rw [checkC, if_neg (by omega)]
    rw [hE1]
    obtain ⟨b1, rfl⟩ : ∃ b1, b1 = b_ := ⟨_, rfl⟩
    refine' loopI (α := Nat) (fun i => [(19, .int .i64 i)]) [(0, _), (3, _), (17, _), (18, _)] (fun i => [⟨b1, .row 5 [encCopying c] 0⟩]) (fun i => i ≤ l.length ∧ (l.take i).any (fun s => decide (4000 < s.length)) = false) (fun i => l.length - i) 0 ?_ ?_
    · exact ⟨Nat.zero_le _, rfl⟩
    rintro i ⟨hi, ha⟩
    (refine g0_ ?_; repeat ((first | refine n1_ fun b_ => ?_ | refine n2_ fun b_ => ?_ | refine Nat1.mk fun q_ hq_ => ?_ | refine em_ fun x_ hx_ => ?_ | refine Elem1.mk fun e_ he_ => ?_); refine g0_ ?_))
    refine brec ?_; intro c_ h2; (try rw [h2]); cases c_ <;> replace h2 := nm_ h2
    · rw [hlm] at h2
      have : i = l.length := by omega
      subst this
      rw [List.take_length] at ha
      rw [ha, if_neg (by decide)]
      (refine g0_ ?_; repeat ((first | refine n1_ fun b_ => ?_ | refine n2_ fun b_ => ?_ | refine Nat1.mk fun q_ hq_ => ?_ | refine em_ fun x_ hx_ => ?_ | refine Elem1.mk fun e_ he_ => ?_); refine g0_ ?_))
      refine .inl ?_
      (refine g0_ ?_; repeat ((first | refine n1_ fun b_ => ?_ | refine n2_ fun b_ => ?_ | refine Nat1.mk fun q_ hq_ => ?_ | refine em_ fun x_ hx_ => ?_ | refine Elem1.mk fun e_ he_ => ?_); refine g0_ ?_))
      refine .run ⟨3, ?_⟩
      (refine g0_ ?_; repeat ((first | refine n1_ fun b_ => ?_ | refine n2_ fun b_ => ?_ | refine Nat1.mk fun q_ hq_ => ?_ | refine em_ fun x_ hx_ => ?_ | refine Elem1.mk fun e_ he_ => ?_); refine g0_ ?_))
      refine brec ?_; intro c_ h4; (try rw [h4]); cases c_ <;> replace h4 := nm_ h4
      · rw [hlm] at h4
        have b0 : badM l.length c.at_ = false := by rw [badM, decide_eq_false_iff_not]; omega
        (refine g0_ ?_; repeat ((first | refine n1_ fun b_ => ?_ | refine n2_ fun b_ => ?_ | refine Nat1.mk fun q_ hq_ => ?_ | refine em_ fun x_ hx_ => ?_ | refine Elem1.mk fun e_ he_ => ?_); refine g0_ ?_))
        refine brec ?_; intro c_ h5; (try rw [h5]); cases c_ <;> replace h5 := nm_ h5
        · rw [hlm] at h5
          have b2 : badM l.length c.from_ = false := by rw [badM, decide_eq_false_iff_not]; omega
          rw [b0, b2, if_neg (by decide)]
          (refine g0_ ?_; repeat ((first | refine n1_ fun b_ => ?_ | refine n2_ fun b_ => ?_ | refine Nat1.mk fun q_ hq_ => ?_ | refine em_ fun x_ hx_ => ?_ | refine Elem1.mk fun e_ he_ => ?_); refine g0_ ?_))
          exact .refl _
        · rw [hlm] at h5
          have b2 : badM l.length c.from_ = true := by rw [badM, decide_eq_true_eq]; omega
          rw [b2, if_pos (.inr rfl)]
          (refine g0_ ?_; repeat ((first | refine n1_ fun b_ => ?_ | refine n2_ fun b_ => ?_ | refine Nat1.mk fun q_ hq_ => ?_ | refine em_ fun x_ hx_ => ?_ | refine Elem1.mk fun e_ he_ => ?_); refine g0_ ?_))
          exact .refl _
      · rw [hlm] at h4
        have b0 : badM l.length c.at_ = true := by rw [badM, decide_eq_true_eq]; omega
        rw [b0, if_pos (.inl rfl)]
        (refine g0_ ?_; repeat ((first | refine n1_ fun b_ => ?_ | refine n2_ fun b_ => ?_ | refine Nat1.mk fun q_ hq_ => ?_ | refine em_ fun x_ hx_ => ?_ | refine Elem1.mk fun e_ he_ => ?_); refine g0_ ?_))
        exact .refl _
    · rw [hlm] at h2
      obtain ⟨s, hs⟩ : ∃ s, l[i]? = some s := ⟨l[i]'(by omega), List.getElem?_eq_getElem _⟩
      have hsm := List.mem_of_getElem? hs
      have hsb := hb s hsm
      have htk := take_snoc_of hs
      (refine g0_ ?_; repeat ((first | refine n1_ fun b_ => ?_ | refine n2_ fun b_ => ?_ | refine Nat1.mk fun q_ hq_ => ?_ | refine em_ fun x_ hx_ => ?_ | refine Elem1.mk fun e_ he_ => ?_); refine g0_ ?_))
      refine brec ?_; intro c_ h3; (try rw [h3]); cases c_ <;> replace h3 := nm_ h3
      · (refine g0_ ?_; repeat ((first | refine n1_ fun b_ => ?_ | refine n2_ fun b_ => ?_ | refine Nat1.mk fun q_ hq_ => ?_ | refine em_ fun x_ hx_ => ?_ | refine Elem1.mk fun e_ he_ => ?_); refine g0_ ?_))
        refine nx_ (i + 1) ?_ ?_
        · exact ⟨by omega, by rw [htk, List.any_append, ha]; simp; omega⟩
        · ((try dsimp only); (try simp only [List.length_drop, List.length_take, List.length_append, List.length_cons, List.length_nil, List.length_map] at *); omega)
      · rw [if_pos (List.any_eq_true.2 ⟨s, hsm, by simp; omega⟩)]
        (refine g0_ ?_; repeat ((first | refine n1_ fun b_ => ?_ | refine n2_ fun b_ => ?_ | refine Nat1.mk fun q_ hq_ => ?_ | refine em_ fun x_ hx_ => ?_ | refine Elem1.mk fun e_ he_ => ?_); refine g0_ ?_))
        exact .refl _
  · rw [hlm] at h1
    rw [checkC, if_pos (by omega)]
    (refine g0_ ?_; repeat ((first | refine n1_ fun b_ => ?_ | refine n2_ fun b_ => ?_ | refine Nat1.mk fun q_ hq_ => ?_ | refine em_ fun x_ hx_ => ?_ | refine Elem1.mk fun e_ he_ => ?_); refine g0_ ?_))
    exact .refl _
theorem at_ok (l : List (Nat × Nat)) (x : Int) (hs : l.length ≤ 1048576) : Pure Tryd.prog W 27 [.sl 2 (l.map encSpot), .int .i64 x] (.int .i64 (atL l x)) := by
  have hlm : (l.map encSpot).length = l.length := List.length_map _
  refine Pure.of (acalls_of_vc (drawOk W) Tryd.func27 rfl (by decide) (by decide) rfl ?_)
  (refine g0_ ?_; repeat ((first | refine n1_ fun b_ => ?_ | refine n2_ fun b_ => ?_ | refine Nat1.mk fun q_ hq_ => ?_ | refine em_ fun x_ hx_ => ?_ | refine Elem1.mk fun e_ he_ => ?_); refine g0_ ?_))
  rw [hlm]
  (refine g0_ ?_; repeat ((first | refine n1_ fun b_ => ?_ | refine n2_ fun b_ => ?_ | refine Nat1.mk fun q_ hq_ => ?_ | refine em_ fun x_ hx_ => ?_ | refine Elem1.mk fun e_ he_ => ?_); refine g0_ ?_))
  refine' loopI (α := Nat × Int) (fun (n, k) => [(5, .int .i64 k)]) [(0, _), (1, _)] (fun (n, k) => []) (fun (n, k) => n ≤ l.length ∧ atF l x n = atF l x l.length ∧ k = (n : Int) - 1) (fun (n, k) => n) (l.length, (l.length : Int) - 1) ?_ ?_
  · exact ⟨Nat.le_refl _, rfl, rfl⟩
  rintro ⟨n, k⟩ ⟨hn, ha, hk⟩
  rcases n with _ | n
  · obtain rfl : k = -1 := by omega
    (refine g0_ ?_; repeat ((first | refine n1_ fun b_ => ?_ | refine n2_ fun b_ => ?_ | refine Nat1.mk fun q_ hq_ => ?_ | refine em_ fun x_ hx_ => ?_ | refine Elem1.mk fun e_ he_ => ?_); refine g0_ ?_))
    (refine g1_ ?_; repeat ((first | refine n1_ fun b_ => ?_ | refine n2_ fun b_ => ?_ | refine Nat1.mk fun q_ hq_ => ?_ | refine em_ fun x_ hx_ => ?_ | refine Elem1.mk fun e_ he_ => ?_); refine g1_ ?_))
    rw [atL, ← ha]
    exact .refl _
  · obtain rfl : k = n := by omega
    obtain ⟨p, hp⟩ : ∃ p, l[n]? = some p := ⟨l[n]'(by omega), List.getElem?_eq_getElem _⟩
    rw [atF, hp] at ha
    dsimp only at ha
    by_cases h7 : x < p.2
    · rw [if_pos h7] at ha
      (refine g0_ ?_; repeat ((first | refine n1_ fun b_ => ?_ | refine n2_ fun b_ => ?_ | refine Nat1.mk fun q_ hq_ => ?_ | refine em_ fun x_ hx_ => ?_ | refine Elem1.mk fun e_ he_ => ?_); refine g0_ ?_))
      (refine g1_ ?_; repeat ((first | refine n1_ fun b_ => ?_ | refine n2_ fun b_ => ?_ | refine Nat1.mk fun q_ hq_ => ?_ | refine em_ fun x_ hx_ => ?_ | refine Elem1.mk fun e_ he_ => ?_); refine g1_ ?_))
      refine nx_ (n, (n : Int) - 1) ?_ ?_
      · exact ⟨by omega, ha, rfl⟩
      · ((try dsimp only); (try simp only [List.length_drop, List.length_take, List.length_append, List.length_cons, List.length_nil, List.length_map] at *); omega)
    · rw [if_neg h7] at ha
      (refine g0_ ?_; repeat ((first | refine n1_ fun b_ => ?_ | refine n2_ fun b_ => ?_ | refine Nat1.mk fun q_ hq_ => ?_ | refine em_ fun x_ hx_ => ?_ | refine Elem1.mk fun e_ he_ => ?_); refine g0_ ?_))
      (refine g1_ ?_; repeat ((first | refine n1_ fun b_ => ?_ | refine n2_ fun b_ => ?_ | refine Nat1.mk fun q_ hq_ => ?_ | refine em_ fun x_ hx_ => ?_ | refine Elem1.mk fun e_ he_ => ?_); refine g1_ ?_))
      rw [atL, ← ha]
      exact Frz.of_eq (by congr 1)
theorem spotsRs_le : ∀ (l : List (Nat × Nat)) (x : Nat), (spotsRs x l).length ≤ l.length
  | [], _ => Nat.le_refl _
  | p :: l, x => by
    rw [spotsRs]
    split
    · have := spotsRs_le l (x + widthL p.1)
      simp only [List.length_cons]; omega
    · have := spotsRs_le l x
      simp only [List.length_cons]; omega
theorem runes_le : ∀ s : List UInt8, (runes s).length ≤ s.length := by
  refine runes_ind (by simp [runes_nil]) fun s h ih => ?_
  have := dec_pos s h
  have := List.length_pos_iff.2 h
  rw [runes_cons h]
  simp at ih ⊢; omega
theorem spotsL_le (s : List UInt8) : (spotsL s).length ≤ s.length := Nat.le_trans (spotsRs_le _ 0) (runes_le s)
/-- The column of the last rune; 0 of none. -/
def endL (s : List UInt8) : Int := match (spotsL s).getLast? with | some p => p.2 | none => 0
theorem end_ok (hT : Tabs W) (s : List UInt8) (hs : s.length ≤ 1048576) : Pure Tryd.prog W 46 [.str s] (.int .i64 (endL s)) := by
  have hlm : ((spotsL s).map encSpot).length = (spotsL s).length := List.length_map _
  have hle : (spotsL s).length ≤ s.length := spotsL_le s
  refine Pure.of (acalls_of_vc (drawOk W) Tryd.func46 rfl (by decide) (by decide) rfl ?_)
  (refine g0_ ?_; repeat ((first | refine n1_ fun b_ => ?_ | refine n2_ fun b_ => ?_ | refine Nat1.mk fun q_ hq_ => ?_ | refine em_ fun x_ hx_ => ?_ | refine Elem1.mk fun e_ he_ => ?_); refine g0_ ?_))
  refine (places_ok W hT s hs).use ?_; (refine g0_ ?_; repeat ((first | refine n1_ fun b_ => ?_ | refine n2_ fun b_ => ?_ | refine Nat1.mk fun q_ hq_ => ?_ | refine em_ fun x_ hx_ => ?_ | refine Elem1.mk fun e_ he_ => ?_); refine g0_ ?_))
  by_cases h0 : spotsL s = []
  · rw [h0, endL, h0]
    (refine g0_ ?_; repeat ((first | refine n1_ fun b_ => ?_ | refine n2_ fun b_ => ?_ | refine Nat1.mk fun q_ hq_ => ?_ | refine em_ fun x_ hx_ => ?_ | refine Elem1.mk fun e_ he_ => ?_); refine g0_ ?_))
    (refine g1_ ?_; repeat ((first | refine n1_ fun b_ => ?_ | refine n2_ fun b_ => ?_ | refine Nat1.mk fun q_ hq_ => ?_ | refine em_ fun x_ hx_ => ?_ | refine Elem1.mk fun e_ he_ => ?_); refine g1_ ?_))
    exact .refl _
  · obtain ⟨p, hp⟩ : ∃ p, (spotsL s)[(spotsL s).length - 1]? = some p := ⟨_, List.getElem?_eq_getElem (by have := List.length_pos_iff.2 h0; omega)⟩
    have hpos := List.length_pos_iff.2 h0
    rw [endL, List.getLast?_eq_getElem?, hp]
    generalize spotsL s = l at *
    (refine g1_ ?_; repeat ((first | refine n1_ fun b_ => ?_ | refine n2_ fun b_ => ?_ | refine Nat1.mk fun q_ hq_ => ?_ | refine em_ fun x_ hx_ => ?_ | refine Elem1.mk fun e_ he_ => ?_); refine g1_ ?_))
    obtain rfl : q_ = l.length - 1 := by omega
    rw [hp] at hx_
    cases hx_
    exact .refl _
/-! ### Marking -/
def noMark : Mark := ⟨0, 0⟩
def noCopying : Copying := ⟨noMark, noMark, false⟩
def selectE (l : List (List UInt8)) (c : Copying) (on : Bool) : Copying × Int := if checkC l c ≠ 0 then (noCopying, checkC l c) else (⟨c.at_, if on then c.at_ else noMark, on⟩, 0)
theorem select_ok (l : List (List UInt8)) (c : Copying) (on : Bool) (hl : l.length ≤ 17592186044416) (hb : ∀ s ∈ l, s.length ≤ 140737488355328) : Pure Tryd.prog W 8 [encLines l, encCopying c, .bool on] (.tup [encCopying (selectE l c on).1, .int .i64 (selectE l c on).2]) := by
  by_cases h : checkC l c = 0
  · cases on
    · have hE : selectE l c false = (⟨c.at_, noMark, false⟩, 0) := by rw [selectE, if_neg (by simpa using h)]; rfl
      rw [hE]
      refine Pure.of (acalls_of_vc (drawOk W) Tryd.func8 rfl (by decide) (by decide) rfl ?_)
      (refine g0_ ?_; repeat ((first | refine n1_ fun b_ => ?_ | refine n2_ fun b_ => ?_ | refine Nat1.mk fun q_ hq_ => ?_ | refine em_ fun x_ hx_ => ?_ | refine Elem1.mk fun e_ he_ => ?_); refine g0_ ?_))
      refine (checkCopy_ok W l c hl hb).use ?_; (refine g0_ ?_; repeat ((first | refine n1_ fun b_ => ?_ | refine n2_ fun b_ => ?_ | refine Nat1.mk fun q_ hq_ => ?_ | refine em_ fun x_ hx_ => ?_ | refine Elem1.mk fun e_ he_ => ?_); refine g0_ ?_))
      rw [h]
      (refine g0_ ?_; repeat ((first | refine n1_ fun b_ => ?_ | refine n2_ fun b_ => ?_ | refine Nat1.mk fun q_ hq_ => ?_ | refine em_ fun x_ hx_ => ?_ | refine Elem1.mk fun e_ he_ => ?_); refine g0_ ?_))
      (refine g1_ ?_; repeat ((first | refine n1_ fun b_ => ?_ | refine n2_ fun b_ => ?_ | refine Nat1.mk fun q_ hq_ => ?_ | refine em_ fun x_ hx_ => ?_ | refine Elem1.mk fun e_ he_ => ?_); refine g1_ ?_))
      exact .refl _
    · have hE : selectE l c true = (⟨c.at_, c.at_, true⟩, 0) := by rw [selectE, if_neg (by simpa using h)]; rfl
      rw [hE]
      refine Pure.of (acalls_of_vc (drawOk W) Tryd.func8 rfl (by decide) (by decide) rfl ?_)
      (refine g0_ ?_; repeat ((first | refine n1_ fun b_ => ?_ | refine n2_ fun b_ => ?_ | refine Nat1.mk fun q_ hq_ => ?_ | refine em_ fun x_ hx_ => ?_ | refine Elem1.mk fun e_ he_ => ?_); refine g0_ ?_))
      refine (checkCopy_ok W l c hl hb).use ?_; (refine g0_ ?_; repeat ((first | refine n1_ fun b_ => ?_ | refine n2_ fun b_ => ?_ | refine Nat1.mk fun q_ hq_ => ?_ | refine em_ fun x_ hx_ => ?_ | refine Elem1.mk fun e_ he_ => ?_); refine g0_ ?_))
      rw [h]
      (refine g0_ ?_; repeat ((first | refine n1_ fun b_ => ?_ | refine n2_ fun b_ => ?_ | refine Nat1.mk fun q_ hq_ => ?_ | refine em_ fun x_ hx_ => ?_ | refine Elem1.mk fun e_ he_ => ?_); refine g0_ ?_))
      (refine g1_ ?_; repeat ((first | refine n1_ fun b_ => ?_ | refine n2_ fun b_ => ?_ | refine Nat1.mk fun q_ hq_ => ?_ | refine em_ fun x_ hx_ => ?_ | refine Elem1.mk fun e_ he_ => ?_); refine g1_ ?_))
      exact .refl _
  · have hE : selectE l c on = (noCopying, checkC l c) := by rw [selectE, if_pos h]
    rw [hE]
    refine Pure.of (acalls_of_vc (drawOk W) Tryd.func8 rfl (by decide) (by decide) rfl ?_)
    (refine g0_ ?_; repeat ((first | refine n1_ fun b_ => ?_ | refine n2_ fun b_ => ?_ | refine Nat1.mk fun q_ hq_ => ?_ | refine em_ fun x_ hx_ => ?_ | refine Elem1.mk fun e_ he_ => ?_); refine g0_ ?_))
    refine (checkCopy_ok W l c hl hb).use ?_; (refine g0_ ?_; repeat ((first | refine n1_ fun b_ => ?_ | refine n2_ fun b_ => ?_ | refine Nat1.mk fun q_ hq_ => ?_ | refine em_ fun x_ hx_ => ?_ | refine Elem1.mk fun e_ he_ => ?_); refine g0_ ?_))
    (refine g1_ ?_; repeat ((first | refine n1_ fun b_ => ?_ | refine n2_ fun b_ => ?_ | refine Nat1.mk fun q_ hq_ => ?_ | refine em_ fun x_ hx_ => ?_ | refine Elem1.mk fun e_ he_ => ?_); refine g1_ ?_))
    exact .refl _
def beginE (l : List (List UInt8)) : Copying × Int := if checkC l noCopying ≠ 0 then (noCopying, checkC l noCopying) else (⟨⟨0, (l.length : Int) - 1⟩, noMark, false⟩, 0)
theorem begin_ok (l : List (List UInt8)) (hl : l.length ≤ 17592186044416) (hb : ∀ s ∈ l, s.length ≤ 140737488355328) : Pure Tryd.prog W 19 [encLines l] (.tup [encCopying (beginE l).1, .int .i64 (beginE l).2]) := by
  have hck := checkCopy_ok W l noCopying hl hb
  have hlm : (l.map PV.str).length = l.length := List.length_map _
  by_cases h : checkC l noCopying = 0
  · have hE : beginE l = (⟨⟨0, (l.length : Int) - 1⟩, noMark, false⟩, 0) := by rw [beginE, if_neg (by simpa using h)]
    rw [hE]
    refine Pure.of (acalls_of_vc (drawOk W) Tryd.func19 rfl (by decide) (by decide) rfl ?_)
    (refine g0_ ?_; repeat ((first | refine n1_ fun b_ => ?_ | refine n2_ fun b_ => ?_ | refine Nat1.mk fun q_ hq_ => ?_ | refine em_ fun x_ hx_ => ?_ | refine Elem1.mk fun e_ he_ => ?_); refine g0_ ?_))
    refine (hck).use ?_; (refine g0_ ?_; repeat ((first | refine n1_ fun b_ => ?_ | refine n2_ fun b_ => ?_ | refine Nat1.mk fun q_ hq_ => ?_ | refine em_ fun x_ hx_ => ?_ | refine Elem1.mk fun e_ he_ => ?_); refine g0_ ?_))
    rw [h]
    (refine g0_ ?_; repeat ((first | refine n1_ fun b_ => ?_ | refine n2_ fun b_ => ?_ | refine Nat1.mk fun q_ hq_ => ?_ | refine em_ fun x_ hx_ => ?_ | refine Elem1.mk fun e_ he_ => ?_); refine g0_ ?_))
    (refine g1_ ?_; repeat ((first | refine n1_ fun b_ => ?_ | refine n2_ fun b_ => ?_ | refine Nat1.mk fun q_ hq_ => ?_ | refine em_ fun x_ hx_ => ?_ | refine Elem1.mk fun e_ he_ => ?_); refine g1_ ?_))
    rw [hlm]
    exact .refl _
  · have hE : beginE l = (noCopying, checkC l noCopying) := by rw [beginE, if_pos h]
    rw [hE]
    refine Pure.of (acalls_of_vc (drawOk W) Tryd.func19 rfl (by decide) (by decide) rfl ?_)
    (refine g0_ ?_; repeat ((first | refine n1_ fun b_ => ?_ | refine n2_ fun b_ => ?_ | refine Nat1.mk fun q_ hq_ => ?_ | refine em_ fun x_ hx_ => ?_ | refine Elem1.mk fun e_ he_ => ?_); refine g0_ ?_))
    refine (hck).use ?_; (refine g0_ ?_; repeat ((first | refine n1_ fun b_ => ?_ | refine n2_ fun b_ => ?_ | refine Nat1.mk fun q_ hq_ => ?_ | refine em_ fun x_ hx_ => ?_ | refine Elem1.mk fun e_ he_ => ?_); refine g0_ ?_))
    (refine g1_ ?_; repeat ((first | refine n1_ fun b_ => ?_ | refine n2_ fun b_ => ?_ | refine Nat1.mk fun q_ hq_ => ?_ | refine em_ fun x_ hx_ => ?_ | refine Elem1.mk fun e_ he_ => ?_); refine g1_ ?_))
    exact .refl _
end Go.Eng.YtdepccblnhkmkaaDoor
end

/- Lines that are copied from: the next word. -/
section
namespace Go.Eng.YtdepccblnhkmkaaDoor
open Go Go.Eng Go.Proofs
variable (W : World)
set_option linter.unusedSimpArgs false
set_option maxRecDepth 100000
set_option linter.unusedVariables false
set_option maxHeartbeats 4000000
/-- The first rune that is no blank, where a blank is behind; and whether one is behind at the end. -/
def wordIn (y : Int) : Bool → List (Nat × Nat) → Option Mark
  | _, [] => none
  | b, p :: l => if p.1 ≠ 32 ∧ b = true then some ⟨p.2, y⟩ else wordIn y (b || decide (p.1 = 32)) l
def wordFrom : List (List UInt8) → Int → Bool → Int → Option Mark
  | [], _, _, _ => none
  | s :: ls, y, b, x => match wordIn y b ((spotsL s).drop (max (atL (spotsL s) x) 0).toNat) with
    | some m => some m
    | none => wordFrom ls (y + 1) true 0
def wordL (ls : List (List UInt8)) (m : Mark) : Mark := (wordFrom (ls.drop m.y.toNat) m.y false m.x).getD ⟨endL (ls.getLast?.getD []), (ls.length : Int) - 1⟩
theorem atF_le (l : List (Nat × Nat)) (x : Int) : ∀ n, atF l x n ≤ n
  | 0 => Nat.le_refl _
  | n + 1 => by
    rw [atF]
    have := atF_le l x n
    (repeat' split) <;> omega
theorem word_ok (hT : Tabs W) (ls : List (List UInt8)) (m : Mark) (h0 : 0 ≤ m.y) (h1 : m.y < ls.length) (hx : 0 ≤ m.x ∧ m.x ≤ 120) (hl : ls.length ≤ 110) (hb : ∀ s ∈ ls, s.length ≤ 4000) : Pure Tryd.prog W 47 [encLines ls, encMark m] (encMark (wordL ls m)) := by
  have hlm : (ls.map PV.str).length = ls.length := List.length_map _
  obtain ⟨mx, my⟩ := m
  dsimp only at h0 h1 hx
  obtain ⟨Y, rfl⟩ := Int.eq_ofNat_of_zero_le h0
  rw [encMark, encLines]
  dsimp only
  refine Pure.of (acalls_of_vc (drawOk W) Tryd.func47 rfl (by decide) (by decide) rfl ?_)
  (refine g0_ ?_; repeat ((first | refine n1_ fun b_ => ?_ | refine n2_ fun b_ => ?_ | refine Nat1.mk fun q_ hq_ => ?_ | refine em_ fun x_ hx_ => ?_ | refine Elem1.mk fun e_ he_ => ?_); refine g0_ ?_))
  rename_i b3
  obtain ⟨b4, rfl⟩ : ∃ b4, b4 = b_ := ⟨_, rfl⟩
  refine' loopI (α := Nat × Bool × Int) (fun (y, bl, x) => [(5, .bool bl), (6, .int .i64 x), (7, .int .i64 y)]) [(0, _), (4, _)] (fun (y, bl, x) => [⟨b4, .row 2 [.agg [.int .i64 0, .int .i64 0]] 0⟩, ⟨b3, .row 2 [.agg [.int .i64 mx, .int .i64 Y]] 0⟩]) (fun (y, bl, x) => y ≤ ls.length ∧ (0 ≤ x ∧ x ≤ 120) ∧ wordFrom (ls.drop y) y bl x = wordFrom (ls.drop Y) Y false mx) (fun (y, bl, x) => ls.length - y) (Y, false, mx) ?_ ?_
  · exact ⟨by omega, hx, rfl⟩
  rintro ⟨y, bl, x⟩ ⟨hy, hxr, hw⟩
  (refine g0_ ?_; repeat ((first | refine n1_ fun b_ => ?_ | refine n2_ fun b_ => ?_ | refine Nat1.mk fun q_ hq_ => ?_ | refine em_ fun x_ hx_ => ?_ | refine Elem1.mk fun e_ he_ => ?_); refine g0_ ?_))
  refine brec ?_; intro c_ h2; (try rw [h2]); cases c_ <;> replace h2 := nm_ h2
  · rw [hlm] at h2
    have : y = ls.length := by omega
    subst this
    rw [List.drop_length, wordFrom] at hw
    obtain ⟨sl, hsl⟩ : ∃ s, ls[ls.length - 1]? = some s := ⟨_, List.getElem?_eq_getElem (by omega)⟩
    have hW : wordL ls ⟨mx, Y⟩ = ⟨endL sl, (ls.length : Int) - 1⟩ := by rw [wordL]; dsimp only; rw [Int.toNat_natCast, ← hw, List.getLast?_eq_getElem?, hsl]; rfl
    have hsb := hb sl (List.mem_of_getElem? hsl)
    rw [hW]
    (refine g0_ ?_; repeat ((first | refine n1_ fun b_ => ?_ | refine n2_ fun b_ => ?_ | refine Nat1.mk fun q_ hq_ => ?_ | refine em_ fun x_ hx_ => ?_ | refine Elem1.mk fun e_ he_ => ?_); refine g0_ ?_))
    obtain rfl : q_ = ls.length - 1 := by omega
    rw [hsl] at hx_
    cases hx_
    refine (end_ok W hT sl (by omega)).use ?_; (refine g0_ ?_; repeat ((first | refine n1_ fun b_ => ?_ | refine n2_ fun b_ => ?_ | refine Nat1.mk fun q_ hq_ => ?_ | refine em_ fun x_ hx_ => ?_ | refine Elem1.mk fun e_ he_ => ?_); refine g0_ ?_))
    rw [hlm]
    exact .refl _
  · rw [hlm] at h2
    obtain ⟨s, hs⟩ : ∃ s, ls[y]? = some s := ⟨ls[y]'(by omega), List.getElem?_eq_getElem _⟩
    have hsb := hb s (List.mem_of_getElem? hs)
    have hsl := spotsL_le s
    have hal := atF_le (spotsL s) x (spotsL s).length
    rw [drop_cons_of hs, wordFrom] at hw
    (refine g0_ ?_; repeat ((first | refine n1_ fun b_ => ?_ | refine n2_ fun b_ => ?_ | refine Nat1.mk fun q_ hq_ => ?_ | refine em_ fun x_ hx_ => ?_ | refine Elem1.mk fun e_ he_ => ?_); refine g0_ ?_))
    refine (places_ok W hT s (by omega)).use ?_; (refine g0_ ?_; repeat ((first | refine n1_ fun b_ => ?_ | refine n2_ fun b_ => ?_ | refine Nat1.mk fun q_ hq_ => ?_ | refine em_ fun x_ hx_ => ?_ | refine Elem1.mk fun e_ he_ => ?_); refine g0_ ?_))
    refine (at_ok W (spotsL s) x (by omega)).use ?_; (refine g0_ ?_; repeat ((first | refine n1_ fun b_ => ?_ | refine n2_ fun b_ => ?_ | refine Nat1.mk fun q_ hq_ => ?_ | refine em_ fun x_ hx_ => ?_ | refine Elem1.mk fun e_ he_ => ?_); refine g0_ ?_))
    have hlm2 : ((spotsL s).map encSpot).length = (spotsL s).length := List.length_map _
    obtain ⟨K, hK⟩ : ∃ K : Nat, max (atL (spotsL s) x) 0 = (K : Int) := ⟨(max (atL (spotsL s) x) 0).toNat, by omega⟩
    have hKl : K ≤ (spotsL s).length := by unfold atL at hK; omega
    rw [hK, Int.toNat_natCast] at hw
    have hK' : (if atL (spotsL s) x < 0 then (0 : Int) else atL (spotsL s) x) = K := by split <;> omega
    rw [hK']
    refine' loopI (α := Nat × Bool) (fun (k, bb) => [(5, .bool bb), (9, .int .i64 k)]) [(0, _), (4, _), (7, _), (8, _)] (fun (k, bb) => [⟨b4, .row 2 [.agg [.int .i64 0, .int .i64 0]] 0⟩, ⟨b3, .row 2 [.agg [.int .i64 mx, .int .i64 Y]] 0⟩]) (fun (k, bb) => k ≤ (spotsL s).length ∧ wordIn y bb ((spotsL s).drop k) = wordIn y bl ((spotsL s).drop K)) (fun (k, bb) => (spotsL s).length - k) (K, bl) ?_ ?_
    · exact ⟨hKl, rfl⟩
    rintro ⟨k, bb⟩ ⟨hk, hwi⟩
    (refine g0_ ?_; repeat ((first | refine n1_ fun b_ => ?_ | refine n2_ fun b_ => ?_ | refine Nat1.mk fun q_ hq_ => ?_ | refine em_ fun x_ hx_ => ?_ | refine Elem1.mk fun e_ he_ => ?_); refine g0_ ?_))
    refine brec ?_; intro c_ h3; (try rw [h3]); cases c_ <;> replace h3 := nm_ h3
    · rw [hlm2] at h3
      have : k = (spotsL s).length := by omega
      subst this
      rw [List.drop_length, wordIn] at hwi
      rw [← hwi] at hw
      dsimp only at hw
      (refine g0_ ?_; repeat ((first | refine n1_ fun b_ => ?_ | refine n2_ fun b_ => ?_ | refine Nat1.mk fun q_ hq_ => ?_ | refine em_ fun x_ hx_ => ?_ | refine Elem1.mk fun e_ he_ => ?_); refine g0_ ?_))
      refine nx_ (y + 1, true, 0) ?_ ?_
      · exact ⟨by omega, by omega, hw⟩
      · ((try dsimp only); (try simp only [List.length_drop, List.length_take, List.length_append, List.length_cons, List.length_nil, List.length_map] at *); omega)
    · rw [hlm2] at h3
      obtain ⟨p, hp⟩ : ∃ p, (spotsL s)[k]? = some p := ⟨(spotsL s)[k]'(by omega), List.getElem?_eq_getElem _⟩
      rw [drop_cons_of hp, wordIn] at hwi
      by_cases hf : p.1 ≠ 32 ∧ bb = true
      · rw [if_pos hf] at hwi
        obtain ⟨hf1, rfl⟩ := hf
        rw [← hwi] at hw
        dsimp only at hw
        have hW : wordL ls ⟨mx, Y⟩ = ⟨p.2, y⟩ := by rw [wordL]; dsimp only; rw [Int.toNat_natCast, ← hw]; rfl
        rw [hW]
        (refine g0_ ?_; repeat ((first | refine n1_ fun b_ => ?_ | refine n2_ fun b_ => ?_ | refine Nat1.mk fun q_ hq_ => ?_ | refine em_ fun x_ hx_ => ?_ | refine Elem1.mk fun e_ he_ => ?_); refine g0_ ?_))
        (refine g1_ ?_; repeat ((first | refine n1_ fun b_ => ?_ | refine n2_ fun b_ => ?_ | refine Nat1.mk fun q_ hq_ => ?_ | refine em_ fun x_ hx_ => ?_ | refine Elem1.mk fun e_ he_ => ?_); refine g1_ ?_))
        exact .refl _
      · rw [if_neg hf] at hwi
        cases bb
        · have h32 : (p.1 = 32) ∨ ¬ (p.1 = 32) := Decidable.em _
          (refine g0_ ?_; repeat ((first | refine n1_ fun b_ => ?_ | refine n2_ fun b_ => ?_ | refine Nat1.mk fun q_ hq_ => ?_ | refine em_ fun x_ hx_ => ?_ | refine Elem1.mk fun e_ he_ => ?_); refine g0_ ?_))
          (refine g1_ ?_; repeat ((first | refine n1_ fun b_ => ?_ | refine n2_ fun b_ => ?_ | refine Nat1.mk fun q_ hq_ => ?_ | refine em_ fun x_ hx_ => ?_ | refine Elem1.mk fun e_ he_ => ?_); refine g1_ ?_))
          refine nx_ (k + 1, decide (p.1 = 32)) ?_ ?_
          · exact ⟨by omega, by rw [← hwi]; simp⟩
          · ((try dsimp only); (try simp only [List.length_drop, List.length_take, List.length_append, List.length_cons, List.length_nil, List.length_map] at *); omega)
        · have h32 : p.1 = 32 := Decidable.byContradiction fun h => hf ⟨h, rfl⟩
          (refine g0_ ?_; repeat ((first | refine n1_ fun b_ => ?_ | refine n2_ fun b_ => ?_ | refine Nat1.mk fun q_ hq_ => ?_ | refine em_ fun x_ hx_ => ?_ | refine Elem1.mk fun e_ he_ => ?_); refine g0_ ?_))
          (refine g1_ ?_; repeat ((first | refine n1_ fun b_ => ?_ | refine n2_ fun b_ => ?_ | refine Nat1.mk fun q_ hq_ => ?_ | refine em_ fun x_ hx_ => ?_ | refine Elem1.mk fun e_ he_ => ?_); refine g1_ ?_))
          refine nx_ (k + 1, true) ?_ ?_
          · exact ⟨by omega, by rw [← hwi]; simp⟩
          · ((try dsimp only); (try simp only [List.length_drop, List.length_take, List.length_append, List.length_cons, List.length_nil, List.length_map] at *); omega)
end Go.Eng.YtdepccblnhkmkaaDoor
end

/- Lines that are copied from: where one goes. -/
section
namespace Go.Eng.YtdepccblnhkmkaaDoor
open Go Go.Eng Go.Proofs
variable (W : World)
set_option linter.unusedSimpArgs false
set_option maxRecDepth 100000
set_option linter.unusedVariables false
set_option maxHeartbeats 4000000
def upS : List UInt8 := [117, 112]
def downS : List UInt8 := [100, 111, 119, 110]
def leftS : List UInt8 := [108, 101, 102, 116]
def rightS : List UInt8 := [114, 105, 103, 104, 116]
def startS : List UInt8 := [115, 116, 97, 114, 116]
def endS : List UInt8 := [101, 110, 100]
def topS : List UInt8 := [116, 111, 112]
def bottomS : List UInt8 := [98, 111, 116, 116, 111, 109]
def wordS : List UInt8 := [119, 111, 114, 100]
/-- Where one goes; none: that is no way. -/
def moveM (ls : List (List UInt8)) (m : Mark) (how : List UInt8) : Option Mark :=
  let l := spotsL (ls.getD m.y.toNat [])
  let k := atL l m.x
  let last := (ls.length : Int) - 1
  if how = upS then some ⟨m.x, max (m.y - 1) 0⟩
  else if how = downS then some ⟨m.x, min (m.y + 1) last⟩
  else if how = leftS then some (if 0 < k then ⟨(l.getD (k - 1).toNat (0, 0)).2, m.y⟩ else if 0 < m.y then ⟨endL (ls.getD (m.y - 1).toNat []), m.y - 1⟩ else m)
  else if how = rightS then some (if k + 1 < l.length then ⟨(l.getD (k + 1).toNat (0, 0)).2, m.y⟩ else if m.y + 1 < ls.length then ⟨0, m.y + 1⟩ else m)
  else if how = startS then some ⟨0, m.y⟩
  else if how = endS then some ⟨endL (ls.getD m.y.toNat []), m.y⟩
  else if how = topS then some noMark
  else if how = bottomS then some ⟨0, last⟩
  else if how = wordS then some (wordL ls m)
  else none
def moveB (ls : List (List UInt8)) (m : Mark) (how : List UInt8) : Mark × Bool := match moveM ls m how with
  | some r => (⟨min r.x 120, r.y⟩, true)
  | none => (m, false)
theorem frz_mv {σ : Mem} {a b x y : Int} {t : Bool} (h1 : a = x) (h2 : b = y) : Frz σ (.tup [.agg [.int .i64 a, .int .i64 b], .bool t]) (.tup [encMark ⟨x, y⟩, .bool t]) := by
  subst h1 h2; exact .refl _
theorem moveB_ok (hT : Tabs W) (ls : List (List UInt8)) (m : Mark) (how : List UInt8) (h0 : 0 ≤ m.y) (h1 : m.y < ls.length) (hx : 0 ≤ m.x ∧ m.x ≤ 120) (hl : ls.length ≤ 110) (hb : ∀ s ∈ ls, s.length ≤ 4000) :
    Pure Tryd.prog W 36 [encLines ls, encMark m, .str how] (.tup [encMark (moveB ls m how).1, .bool (moveB ls m how).2]) := by
  have hlm : (ls.map PV.str).length = ls.length := List.length_map _
  have hwd := word_ok W hT ls m h0 h1 hx hl hb
  obtain ⟨mx, my⟩ := m
  dsimp only at h0 h1 hx
  obtain ⟨Y, rfl⟩ := Int.eq_ofNat_of_zero_le h0
  obtain ⟨s, hs⟩ : ∃ s, ls[Y]? = some s := ⟨ls[Y]'(by omega), List.getElem?_eq_getElem _⟩
  have hsb := hb s (List.mem_of_getElem? hs)
  have hsl := spotsL_le s
  have hal := atF_le (spotsL s) mx (spotsL s).length
  have hsd : ls.getD Y [] = s := by rw [List.getD_eq_getElem?_getD, hs]; rfl
  have hlm2 : ((spotsL s).map encSpot).length = (spotsL s).length := List.length_map _
  have hab : -1 ≤ atL (spotsL s) mx ∧ atL (spotsL s) mx < (spotsL s).length := by unfold atL; omega
  rw [moveB, moveM]
  dsimp only
  rw [Int.toNat_natCast, hsd, encMark, encLines]
  dsimp only
  refine Pure.of (acalls_of_vc (drawOk W) Tryd.func36 rfl (by decide) (by decide) rfl ?_)
  (refine g0_ ?_; repeat ((first | refine n1_ fun b_ => ?_ | refine n2_ fun b_ => ?_ | refine Nat1.mk fun q_ hq_ => ?_ | refine em_ fun x_ hx_ => ?_ | refine Elem1.mk fun e_ he_ => ?_); refine g0_ ?_))
  refine (places_ok W hT s (by omega)).use ?_; (refine g0_ ?_; repeat ((first | refine n1_ fun b_ => ?_ | refine n2_ fun b_ => ?_ | refine Nat1.mk fun q_ hq_ => ?_ | refine em_ fun x_ hx_ => ?_ | refine Elem1.mk fun e_ he_ => ?_); refine g0_ ?_))
  refine (at_ok W (spotsL s) mx (by omega)).use ?_; (refine g0_ ?_; repeat ((first | refine n1_ fun b_ => ?_ | refine n2_ fun b_ => ?_ | refine Nat1.mk fun q_ hq_ => ?_ | refine em_ fun x_ hx_ => ?_ | refine Elem1.mk fun e_ he_ => ?_); refine g0_ ?_))
  by_cases e1 : how = upS
  · rw [if_pos e1]
    subst e1
    (refine g1_ ?_; repeat ((first | refine n1_ fun b_ => ?_ | refine n2_ fun b_ => ?_ | refine Nat1.mk fun q_ hq_ => ?_ | refine em_ fun x_ hx_ => ?_ | refine Elem1.mk fun e_ he_ => ?_); refine g1_ ?_))
    dsimp only
    exact frz_mv (by (try split) <;> omega) (by (try split) <;> omega)
  rw [if_neg e1]
  by_cases e2 : how = downS
  · rw [if_pos e2]
    subst e2
    (refine g1_ ?_; repeat ((first | refine n1_ fun b_ => ?_ | refine n2_ fun b_ => ?_ | refine Nat1.mk fun q_ hq_ => ?_ | refine em_ fun x_ hx_ => ?_ | refine Elem1.mk fun e_ he_ => ?_); refine g1_ ?_))
    dsimp only
    rw [hlm]
    exact frz_mv (by (try split) <;> omega) (by (try split) <;> omega)
  rw [if_neg e2]
  by_cases e3 : how = leftS
  · rw [if_pos e3]
    subst e3
    by_cases hk : 0 < atL (spotsL s) mx
    · rw [if_pos hk]
      obtain ⟨p, hp⟩ : ∃ p, (spotsL s)[(atL (spotsL s) mx - 1).toNat]? = some p := ⟨_, List.getElem?_eq_getElem (by unfold atL at *; omega)⟩
      rw [List.getD_eq_getElem?_getD, hp, Option.getD_some]
      (refine g1_ ?_; repeat ((first | refine n1_ fun b_ => ?_ | refine n2_ fun b_ => ?_ | refine Nat1.mk fun q_ hq_ => ?_ | refine em_ fun x_ hx_ => ?_ | refine Elem1.mk fun e_ he_ => ?_); refine g1_ ?_))
      first
        | (obtain rfl : q_ = (atL (spotsL s) mx - 1).toNat := by omega
           rw [hp] at hx_
           cases hx_)
        | skip
      dsimp only
      exact frz_mv (by (try split) <;> omega) (by (try split) <;> omega)
    · rw [if_neg hk]
      by_cases hY : 0 < (Y : Int)
      · rw [if_pos hY]
        obtain ⟨s2, hs2⟩ : ∃ s, ls[((Y : Int) - 1).toNat]? = some s := ⟨_, List.getElem?_eq_getElem (by omega)⟩
        have hsb2 := hb s2 (List.mem_of_getElem? hs2)
        rw [List.getD_eq_getElem?_getD, hs2, Option.getD_some]
        (refine g1_ ?_; repeat ((first | refine n1_ fun b_ => ?_ | refine n2_ fun b_ => ?_ | refine Nat1.mk fun q_ hq_ => ?_ | refine em_ fun x_ hx_ => ?_ | refine Elem1.mk fun e_ he_ => ?_); refine g1_ ?_))
        obtain rfl : q_ = ((Y : Int) - 1).toNat := by omega
        rw [hs2] at hx_
        cases hx_
        refine (end_ok W hT s2 (by omega)).use ?_; (refine g0_ ?_; repeat ((first | refine n1_ fun b_ => ?_ | refine n2_ fun b_ => ?_ | refine Nat1.mk fun q_ hq_ => ?_ | refine em_ fun x_ hx_ => ?_ | refine Elem1.mk fun e_ he_ => ?_); refine g0_ ?_))
        dsimp only
        exact frz_mv (by (try split) <;> omega) (by (try split) <;> omega)
      · rw [if_neg hY]
        (refine g1_ ?_; repeat ((first | refine n1_ fun b_ => ?_ | refine n2_ fun b_ => ?_ | refine Nat1.mk fun q_ hq_ => ?_ | refine em_ fun x_ hx_ => ?_ | refine Elem1.mk fun e_ he_ => ?_); refine g1_ ?_))
        dsimp only
        exact frz_mv (by (try split) <;> omega) (by (try split) <;> omega)
  rw [if_neg e3]
  by_cases e4 : how = rightS
  · rw [if_pos e4]
    subst e4
    by_cases hk : atL (spotsL s) mx + 1 < (spotsL s).length
    · rw [if_pos hk]
      obtain ⟨p, hp⟩ : ∃ p, (spotsL s)[(atL (spotsL s) mx + 1).toNat]? = some p := ⟨_, List.getElem?_eq_getElem (by unfold atL at *; omega)⟩
      have hk0 : 0 ≤ atL (spotsL s) mx + 1 := by unfold atL; omega
      rw [List.getD_eq_getElem?_getD, hp, Option.getD_some]
      (refine g1_ ?_; repeat ((first | refine n1_ fun b_ => ?_ | refine n2_ fun b_ => ?_ | refine Nat1.mk fun q_ hq_ => ?_ | refine em_ fun x_ hx_ => ?_ | refine Elem1.mk fun e_ he_ => ?_); refine g1_ ?_))
      obtain rfl : q_ = (atL (spotsL s) mx + 1).toNat := by omega
      rw [hp] at hx_
      cases hx_
      dsimp only
      exact frz_mv (by (try split) <;> omega) (by (try split) <;> omega)
    · rw [if_neg hk]
      by_cases hY : (Y : Int) + 1 < ls.length
      · rw [if_pos hY]
        (refine g1_ ?_; repeat ((first | refine n1_ fun b_ => ?_ | refine n2_ fun b_ => ?_ | refine Nat1.mk fun q_ hq_ => ?_ | refine em_ fun x_ hx_ => ?_ | refine Elem1.mk fun e_ he_ => ?_); refine g1_ ?_))
        exact .refl _
      · rw [if_neg hY]
        (refine g1_ ?_; repeat ((first | refine n1_ fun b_ => ?_ | refine n2_ fun b_ => ?_ | refine Nat1.mk fun q_ hq_ => ?_ | refine em_ fun x_ hx_ => ?_ | refine Elem1.mk fun e_ he_ => ?_); refine g1_ ?_))
        dsimp only
        exact frz_mv (by (try split) <;> omega) (by (try split) <;> omega)
  rw [if_neg e4]
  by_cases e5 : how = startS
  · rw [if_pos e5]
    subst e5
    (refine g1_ ?_; repeat ((first | refine n1_ fun b_ => ?_ | refine n2_ fun b_ => ?_ | refine Nat1.mk fun q_ hq_ => ?_ | refine em_ fun x_ hx_ => ?_ | refine Elem1.mk fun e_ he_ => ?_); refine g1_ ?_))
    exact .refl _
  rw [if_neg e5]
  by_cases e6 : how = endS
  · rw [if_pos e6]
    subst e6
    (refine g1_ ?_; repeat ((first | refine n1_ fun b_ => ?_ | refine n2_ fun b_ => ?_ | refine Nat1.mk fun q_ hq_ => ?_ | refine em_ fun x_ hx_ => ?_ | refine Elem1.mk fun e_ he_ => ?_); refine g1_ ?_))
    refine (end_ok W hT s (by omega)).use ?_; (refine g0_ ?_; repeat ((first | refine n1_ fun b_ => ?_ | refine n2_ fun b_ => ?_ | refine Nat1.mk fun q_ hq_ => ?_ | refine em_ fun x_ hx_ => ?_ | refine Elem1.mk fun e_ he_ => ?_); refine g0_ ?_))
    dsimp only
    exact frz_mv (by (try split) <;> omega) (by (try split) <;> omega)
  rw [if_neg e6]
  by_cases e7 : how = topS
  · rw [if_pos e7]
    subst e7
    (refine g1_ ?_; repeat ((first | refine n1_ fun b_ => ?_ | refine n2_ fun b_ => ?_ | refine Nat1.mk fun q_ hq_ => ?_ | refine em_ fun x_ hx_ => ?_ | refine Elem1.mk fun e_ he_ => ?_); refine g1_ ?_))
    exact .refl _
  rw [if_neg e7]
  by_cases e8 : how = bottomS
  · rw [if_pos e8]
    subst e8
    (refine g1_ ?_; repeat ((first | refine n1_ fun b_ => ?_ | refine n2_ fun b_ => ?_ | refine Nat1.mk fun q_ hq_ => ?_ | refine em_ fun x_ hx_ => ?_ | refine Elem1.mk fun e_ he_ => ?_); refine g1_ ?_))
    rw [hlm]
    exact .refl _
  rw [if_neg e8]
  by_cases e9 : how = wordS
  · rw [if_pos e9]
    subst e9
    (refine g1_ ?_; repeat ((first | refine n1_ fun b_ => ?_ | refine n2_ fun b_ => ?_ | refine Nat1.mk fun q_ hq_ => ?_ | refine em_ fun x_ hx_ => ?_ | refine Elem1.mk fun e_ he_ => ?_); refine g1_ ?_))
    refine (hwd).use ?_; (refine g0_ ?_; repeat ((first | refine n1_ fun b_ => ?_ | refine n2_ fun b_ => ?_ | refine Nat1.mk fun q_ hq_ => ?_ | refine em_ fun x_ hx_ => ?_ | refine Elem1.mk fun e_ he_ => ?_); refine g0_ ?_))
    dsimp only
    exact frz_mv (by (try split) <;> omega) (by (try split) <;> omega)
  rw [if_neg e9]
  unfold upS at e1
  unfold downS at e2
  unfold leftS at e3
  unfold rightS at e4
  unfold startS at e5
  unfold endS at e6
  unfold topS at e7
  unfold bottomS at e8
  unfold wordS at e9
  (refine g1_ ?_; repeat ((first | refine n1_ fun b_ => ?_ | refine n2_ fun b_ => ?_ | refine Nat1.mk fun q_ hq_ => ?_ | refine em_ fun x_ hx_ => ?_ | refine Elem1.mk fun e_ he_ => ?_); refine g1_ ?_))
  exact .refl _
theorem check_zero {ls : List (List UInt8)} {c : Copying} (h : checkC ls c = 0) : (1 ≤ ls.length ∧ ls.length ≤ 110) ∧ (∀ s ∈ ls, s.length ≤ 4000) ∧ (0 ≤ c.at_.y ∧ c.at_.y < ls.length ∧ 0 ≤ c.at_.x ∧ c.at_.x ≤ 120) ∧ (0 ≤ c.from_.y ∧ c.from_.y < ls.length ∧ 0 ≤ c.from_.x ∧ c.from_.x ≤ 120) := by
  unfold checkC at h
  split at h
  · cases h
  · rename_i h1
    split at h
    · cases h
    · rename_i h2
      split at h
      · cases h
      · rename_i h3
        refine ⟨by omega, fun s hs => ?_, ?_, ?_⟩
        · apply Decidable.byContradiction
          intro h4
          exact h2 (List.any_eq_true.2 ⟨s, hs, by simp; omega⟩)
        · have h5 : ¬ badM ls.length c.at_ = true := fun h => h3 (.inl h)
          unfold badM at h5
          rw [decide_eq_true_eq] at h5
          omega
        · have h5 : ¬ badM ls.length c.from_ = true := fun h => h3 (.inr h)
          unfold badM at h5
          rw [decide_eq_true_eq] at h5
          omega
def moveE (ls : List (List UInt8)) (c : Copying) (how : List UInt8) : Copying × Int :=
  if checkC ls c ≠ 0 then (noCopying, checkC ls c) else if (moveB ls c.at_ how).2 = true then (⟨(moveB ls c.at_ how).1, c.from_, c.on⟩, 0) else (noCopying, 6)
theorem move_ok (hT : Tabs W) (ls : List (List UInt8)) (c : Copying) (how : List UInt8) (hl : ls.length ≤ 17592186044416) (hb : ∀ s ∈ ls, s.length ≤ 140737488355328) : Pure Tryd.prog W 18 [encLines ls, encCopying c, .str how] (.tup [encCopying (moveE ls c how).1, .int .i64 (moveE ls c how).2]) := by
  by_cases h : checkC ls c = 0
  · obtain ⟨g1, g2, g3, g4⟩ := check_zero h
    have hm := moveB_ok W hT ls c.at_ how g3.1 g3.2.1 g3.2.2 g1.2 g2
    rw [moveE, if_neg (by simpa using h)]
    generalize moveB ls c.at_ how = r at *
    obtain ⟨m, ok⟩ := r
    cases ok
    · rw [if_neg (show ¬ (false = true) by decide)]
      refine Pure.of (acalls_of_vc (drawOk W) Tryd.func18 rfl (by decide) (by decide) rfl ?_)
      (refine g0_ ?_; repeat ((first | refine n1_ fun b_ => ?_ | refine n2_ fun b_ => ?_ | refine Nat1.mk fun q_ hq_ => ?_ | refine em_ fun x_ hx_ => ?_ | refine Elem1.mk fun e_ he_ => ?_); refine g0_ ?_))
      refine (checkCopy_ok W ls c hl hb).use ?_; (refine g0_ ?_; repeat ((first | refine n1_ fun b_ => ?_ | refine n2_ fun b_ => ?_ | refine Nat1.mk fun q_ hq_ => ?_ | refine em_ fun x_ hx_ => ?_ | refine Elem1.mk fun e_ he_ => ?_); refine g0_ ?_))
      rw [h]
      (refine g0_ ?_; repeat ((first | refine n1_ fun b_ => ?_ | refine n2_ fun b_ => ?_ | refine Nat1.mk fun q_ hq_ => ?_ | refine em_ fun x_ hx_ => ?_ | refine Elem1.mk fun e_ he_ => ?_); refine g0_ ?_))
      (refine g1_ ?_; repeat ((first | refine n1_ fun b_ => ?_ | refine n2_ fun b_ => ?_ | refine Nat1.mk fun q_ hq_ => ?_ | refine em_ fun x_ hx_ => ?_ | refine Elem1.mk fun e_ he_ => ?_); refine g1_ ?_))
      refine (hm).use ?_; (refine g0_ ?_; repeat ((first | refine n1_ fun b_ => ?_ | refine n2_ fun b_ => ?_ | refine Nat1.mk fun q_ hq_ => ?_ | refine em_ fun x_ hx_ => ?_ | refine Elem1.mk fun e_ he_ => ?_); refine g0_ ?_))
      (refine g1_ ?_; repeat ((first | refine n1_ fun b_ => ?_ | refine n2_ fun b_ => ?_ | refine Nat1.mk fun q_ hq_ => ?_ | refine em_ fun x_ hx_ => ?_ | refine Elem1.mk fun e_ he_ => ?_); refine g1_ ?_))
      exact .refl _
    · rw [if_pos rfl]
      refine Pure.of (acalls_of_vc (drawOk W) Tryd.func18 rfl (by decide) (by decide) rfl ?_)
      (refine g0_ ?_; repeat ((first | refine n1_ fun b_ => ?_ | refine n2_ fun b_ => ?_ | refine Nat1.mk fun q_ hq_ => ?_ | refine em_ fun x_ hx_ => ?_ | refine Elem1.mk fun e_ he_ => ?_); refine g0_ ?_))
      refine (checkCopy_ok W ls c hl hb).use ?_; (refine g0_ ?_; repeat ((first | refine n1_ fun b_ => ?_ | refine n2_ fun b_ => ?_ | refine Nat1.mk fun q_ hq_ => ?_ | refine em_ fun x_ hx_ => ?_ | refine Elem1.mk fun e_ he_ => ?_); refine g0_ ?_))
      rw [h]
      (refine g0_ ?_; repeat ((first | refine n1_ fun b_ => ?_ | refine n2_ fun b_ => ?_ | refine Nat1.mk fun q_ hq_ => ?_ | refine em_ fun x_ hx_ => ?_ | refine Elem1.mk fun e_ he_ => ?_); refine g0_ ?_))
      (refine g1_ ?_; repeat ((first | refine n1_ fun b_ => ?_ | refine n2_ fun b_ => ?_ | refine Nat1.mk fun q_ hq_ => ?_ | refine em_ fun x_ hx_ => ?_ | refine Elem1.mk fun e_ he_ => ?_); refine g1_ ?_))
      refine (hm).use ?_; (refine g0_ ?_; repeat ((first | refine n1_ fun b_ => ?_ | refine n2_ fun b_ => ?_ | refine Nat1.mk fun q_ hq_ => ?_ | refine em_ fun x_ hx_ => ?_ | refine Elem1.mk fun e_ he_ => ?_); refine g0_ ?_))
      (refine g1_ ?_; repeat ((first | refine n1_ fun b_ => ?_ | refine n2_ fun b_ => ?_ | refine Nat1.mk fun q_ hq_ => ?_ | refine em_ fun x_ hx_ => ?_ | refine Elem1.mk fun e_ he_ => ?_); refine g1_ ?_))
      exact .refl _
  · have hE : moveE ls c how = (noCopying, checkC ls c) := by rw [moveE, if_pos h]
    rw [hE]
    refine Pure.of (acalls_of_vc (drawOk W) Tryd.func18 rfl (by decide) (by decide) rfl ?_)
    (refine g0_ ?_; repeat ((first | refine n1_ fun b_ => ?_ | refine n2_ fun b_ => ?_ | refine Nat1.mk fun q_ hq_ => ?_ | refine em_ fun x_ hx_ => ?_ | refine Elem1.mk fun e_ he_ => ?_); refine g0_ ?_))
    refine (checkCopy_ok W ls c hl hb).use ?_; (refine g0_ ?_; repeat ((first | refine n1_ fun b_ => ?_ | refine n2_ fun b_ => ?_ | refine Nat1.mk fun q_ hq_ => ?_ | refine em_ fun x_ hx_ => ?_ | refine Elem1.mk fun e_ he_ => ?_); refine g0_ ?_))
    (refine g1_ ?_; repeat ((first | refine n1_ fun b_ => ?_ | refine n2_ fun b_ => ?_ | refine Nat1.mk fun q_ hq_ => ?_ | refine em_ fun x_ hx_ => ?_ | refine Elem1.mk fun e_ he_ => ?_); refine g1_ ?_))
    exact .refl _
end Go.Eng.YtdepccblnhkmkaaDoor
end

/- Lines that are copied from: where a text stands. -/
section
namespace Go.Eng.YtdepccblnhkmkaaDoor
open Go Go.Eng Go.Proofs
variable (W : World)
set_option linter.unusedSimpArgs false
set_option maxRecDepth 100000
set_option linter.unusedVariables false
set_option maxHeartbeats 4000000
def encRune (r : Nat) : PV := .int .i32 r
/-- Do the runes of a row of places begin with these? -/
def standsL (l : List (Nat × Nat)) (w : List Nat) : Bool := w.isPrefixOf (l.map Prod.fst)
theorem stands_at : ∀ (w l : List Nat), w.isPrefixOf l = true ↔ w.length ≤ l.length ∧ ∀ (i r : Nat), w[i]? = some r → l[i]? = some r
  | [], l => by simp
  | a :: w, [] => by
    simp only [List.isPrefixOf, Bool.false_eq_true, List.length_cons, List.length_nil, false_iff]
    rintro ⟨h, _⟩; omega
  | a :: w, b :: l => by
    have ih := stands_at w l
    simp only [List.isPrefixOf, Bool.and_eq_true, beq_iff_eq, List.length_cons, ih]
    constructor
    · rintro ⟨rfl, h1, h2⟩
      refine ⟨by omega, fun i r h => ?_⟩
      cases i with
      | zero => simpa using h
      | succ i => simpa using h2 i r (by simpa using h)
    · rintro ⟨h1, h2⟩
      have h0 := h2 0 a rfl
      simp at h0
      exact ⟨h0.symm, by omega, fun i r h => by simpa using h2 (i + 1) r (by simpa using h)⟩
theorem stands_ok (l : List (Nat × Nat)) (w : List Nat) (hl : l.length ≤ 1048576) (hw : w.length ≤ 1048576) : Pure Tryd.prog W 34 [.sl 2 (l.map encSpot), .sl 1 (w.map encRune)] (.bool (standsL l w)) := by
  have hlm : (l.map encSpot).length = l.length := List.length_map _
  have hwm : (w.map encRune).length = w.length := List.length_map _
  have hlm1 : (l.map Prod.fst).length = l.length := List.length_map _
  refine Pure.of (acalls_of_vc (drawOk W) Tryd.func34 rfl (by decide) (by decide) rfl ?_)
  (refine g0_ ?_; repeat ((first | refine n1_ fun b_ => ?_ | refine n2_ fun b_ => ?_ | refine Nat1.mk fun q_ hq_ => ?_ | refine em_ fun x_ hx_ => ?_ | refine Elem1.mk fun e_ he_ => ?_); refine g0_ ?_))
  refine brec ?_; intro c_ h1; (try rw [h1]); cases c_ <;> replace h1 := nm_ h1
  · rw [hlm, hwm] at h1
    refine' loopI (α := Nat) (fun i => [(14, .int .i64 i)]) [(0, _), (12, _), (13, _)] (fun i => []) (fun i => i ≤ w.length ∧ ∀ j r, j < i → w[j]? = some r → (l.map Prod.fst)[j]? = some r) (fun i => w.length - i) 0 ?_ ?_
    · exact ⟨Nat.zero_le _, fun j r hj => by omega⟩
    rintro i ⟨hi, ha⟩
    (refine g0_ ?_; repeat ((first | refine n1_ fun b_ => ?_ | refine n2_ fun b_ => ?_ | refine Nat1.mk fun q_ hq_ => ?_ | refine em_ fun x_ hx_ => ?_ | refine Elem1.mk fun e_ he_ => ?_); refine g0_ ?_))
    refine brec ?_; intro c_ h2; (try rw [h2]); cases c_ <;> replace h2 := nm_ h2
    · rw [hwm] at h2
      have : i = w.length := by omega
      subst this
      have hF : standsL l w = true := (stands_at _ _).2 ⟨by omega, fun j r h => ha j r (lt_of_at h) h⟩
      rw [hF]
      (refine g0_ ?_; repeat ((first | refine n1_ fun b_ => ?_ | refine n2_ fun b_ => ?_ | refine Nat1.mk fun q_ hq_ => ?_ | refine em_ fun x_ hx_ => ?_ | refine Elem1.mk fun e_ he_ => ?_); refine g0_ ?_))
      exact .refl _
    · rw [hwm] at h2
      obtain ⟨r, hr⟩ : ∃ r, w[i]? = some r := ⟨w[i]'(by omega), List.getElem?_eq_getElem _⟩
      obtain ⟨p, hp⟩ : ∃ p, l[i]? = some p := ⟨l[i]'(by omega), List.getElem?_eq_getElem _⟩
      have hpf : (l.map Prod.fst)[i]? = some p.1 := by rw [List.getElem?_map, hp]; rfl
      (refine g0_ ?_; repeat ((first | refine n1_ fun b_ => ?_ | refine n2_ fun b_ => ?_ | refine Nat1.mk fun q_ hq_ => ?_ | refine em_ fun x_ hx_ => ?_ | refine Elem1.mk fun e_ he_ => ?_); refine g0_ ?_))
      refine brec ?_; intro c_ h3; (try rw [h3]); cases c_ <;> replace h3 := nm_ h3
      · have hpr : p.1 = r := by omega
        (refine g0_ ?_; repeat ((first | refine n1_ fun b_ => ?_ | refine n2_ fun b_ => ?_ | refine Nat1.mk fun q_ hq_ => ?_ | refine em_ fun x_ hx_ => ?_ | refine Elem1.mk fun e_ he_ => ?_); refine g0_ ?_))
        refine nx_ (i + 1) ?_ ?_
        · refine ⟨by omega, fun j q hj hq => ?_⟩
          by_cases e : j = i
          · subst e
            rw [hr] at hq
            rw [hpf, hpr]
            exact hq
          · exact ha j q (by omega) hq
        · ((try dsimp only); (try simp only [List.length_drop, List.length_take, List.length_append, List.length_cons, List.length_nil, List.length_map] at *); omega)
      · have hF : standsL l w = false := by
          rw [Bool.eq_false_iff]
          intro h
          have := ((stands_at _ _).1 h).2 i r hr
          rw [hpf] at this
          have := Option.some.inj this
          omega
        rw [hF]
        (refine g0_ ?_; repeat ((first | refine n1_ fun b_ => ?_ | refine n2_ fun b_ => ?_ | refine Nat1.mk fun q_ hq_ => ?_ | refine em_ fun x_ hx_ => ?_ | refine Elem1.mk fun e_ he_ => ?_); refine g0_ ?_))
        exact .refl _
  · rw [hlm, hwm] at h1
    have hF : standsL l w = false := by
      rw [Bool.eq_false_iff]
      intro h
      have := ((stands_at _ _).1 h).1
      omega
    rw [hF]
    (refine g0_ ?_; repeat ((first | refine n1_ fun b_ => ?_ | refine n2_ fun b_ => ?_ | refine Nat1.mk fun q_ hq_ => ?_ | refine em_ fun x_ hx_ => ?_ | refine Elem1.mk fun e_ he_ => ?_); refine g0_ ?_))
    exact .refl _
end Go.Eng.YtdepccblnhkmkaaDoor
end
