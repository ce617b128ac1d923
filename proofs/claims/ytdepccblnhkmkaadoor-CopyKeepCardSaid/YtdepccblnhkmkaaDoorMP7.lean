/- Texts put together: Copy16. -/
import Derived.Test.YtdepccblnhkmkaaDoorMP2
import Derived.Test.YtdepccblnhkmkaaDoorMG1
import Derived.Test.YtdepccblnhkmkaaDoorMH1
/- The law CopyKeep. -/
section
namespace Go.Eng.YtdepccblnhkmkaaDoor
open Go Go.Eng Go.Proofs
variable (W : World)
set_option linter.unusedSimpArgs false
set_option maxRecDepth 100000
set_option linter.unusedVariables false
set_option maxHeartbeats 8000000
/-! ### Replacing one byte -/
theorem index_cons (b c : UInt8) (l : List UInt8) : Lib.index (b :: l) [c] = if b = c then 0 else if Lib.index l [c] = -1 then -1 else Lib.index l [c] + 1 := by
  rw [Lib.index]
  by_cases h : b = c
  · subst h; simp [List.isPrefixOf]
  · rw [if_neg h, if_neg (by simp [List.isPrefixOf]; exact fun e => h e.symm)]
    simp
def repB (c : UInt8) (new : List UInt8) (s : List UInt8) : List UInt8 := s.flatMap fun b => if b = c then new else [b]
theorem index_none (c : UInt8) : ∀ s : List UInt8, s.count c = 0 → Lib.index s [c] = -1
  | [], _ => rfl
  | b :: l, h => by
    have hb : b ≠ c := fun e => by subst e; simp at h
    rw [List.count_cons_of_ne (by simpa using hb)] at h
    rw [index_cons, if_neg hb, index_none c l h]; rfl
theorem replaceK_one (c : UInt8) (new : List UInt8) : ∀ s : List UInt8, Lib.replaceK [c] new (s.count c) s = repB c new s
  | [] => rfl
  | b :: l => by
    have ih := replaceK_one c new l
    by_cases h : b = c
    · subst h
      rw [List.count_cons_self, Lib.replaceK_hit [b] new _ (b :: l) 0 (by rw [index_cons, if_pos rfl]; rfl)]
      simp only [List.take_zero, List.nil_append, List.length_cons, List.length_nil, Nat.zero_add, List.drop_succ_cons, List.drop_zero]
      rw [ih, repB, repB, List.flatMap_cons, if_pos rfl]
    · rw [List.count_cons_of_ne (by simpa using h)]
      cases hc : l.count c with
      | zero =>
        rw [hc] at ih
        rw [Lib.replaceK, repB, List.flatMap_cons, if_neg h]
        rw [Lib.replaceK, repB] at ih
        rw [← ih]; rfl
      | succ k =>
        rw [hc] at ih
        obtain ⟨i, hi⟩ := Lib.index_of_count (s := l) (old := [c]) (by rw [Lib.count_one, hc]; omega)
        rw [Lib.replaceK_hit [c] new k (b :: l) (i + 1) (by rw [index_cons, if_neg h, hi, if_neg (by omega)]; rfl)]
        rw [Lib.replaceK_hit [c] new k l i hi] at ih
        rw [repB, List.flatMap_cons, if_neg h, ← repB, ← ih]
        simp
theorem replaceAll_one (c : UInt8) (new : List UInt8) (h : new ≠ [c]) (s : List UInt8) : Lib.replaceAll s [c] new = repB c new s := by
  have h1 : ¬ (([c] : List UInt8) == new) = true := by
    intro e; exact h (by simpa using (beq_iff_eq.1 e).symm)
  rw [Lib.replaceAll, Lib.replace, if_neg h1, Lib.replaceNum, if_pos (.inl (by decide)), Lib.count_one]
  exact replaceK_one c new s
abbrev MaxI (W : World) : Prop := ∃ m, W.cell? ⟨0, 0, none⟩ = some (.int .i64 m)
theorem replaceAll_ok (hM : MaxI W) (s : List UInt8) (c : UInt8) (new : List UInt8) (h : new ≠ [c]) (hs : s.length ≤ 1048576) (hn : new.length ≤ 1) :
    Pure Tryd.prog W 39 [.str s, .str [c], .str new] (.str (repB c new s)) := by
  obtain ⟨m, hm⟩ := hM
  rw [← replaceAll_one c new h]
  have hcl := Lib.countB_le ⟨#[c]⟩ (by simp [ByteArray.size]) s.length ⟨s.toArray⟩ (by simp [ByteArray.size])
  refine Pure.of_below Tryd.func39 rfl (by decide) rfl rfl fun w _ hw => ?_
  have hlt : 0 < W.heap.size := by
    simp only [World.cell?] at hm
    cases hb : W.heap[(0 : Nat)]? with
    | none => simp [hb] at hm
    | some o => exact (Array.getElem?_eq_some_iff.1 hb).1
  have hm' : w.cell? ⟨0, 0, none⟩ = some (.int .i64 m) := by
    have := hw _ hlt
    simpa only [World.cell?, this] using hm
  refine Tryd.strings_ReplaceAll ⟨s.toArray⟩ ⟨#[c]⟩ ⟨new.toArray⟩ m w (by simp [ByteArray.size]; omega) hm' (by simp [ByteArray.size]) ?_
  have hsz : (⟨s.toArray⟩ : ByteArray).size = s.length := by simp [ByteArray.size]
  have hnz : (⟨new.toArray⟩ : ByteArray).size = new.length := by simp [ByteArray.size]
  rw [hsz] at hcl ⊢
  rw [hnz]
  have : Lib.countB ⟨s.toArray⟩ ⟨#[c]⟩ * new.length ≤ s.length * 1 := Nat.mul_le_mul hcl hn
  omega
theorem repB_len (c : UInt8) (new : List UInt8) (hn : new.length ≤ 1) : ∀ s : List UInt8, (repB c new s).length ≤ s.length
  | [] => Nat.le_refl _
  | b :: l => by
    have ih := repB_len c new hn l
    rw [repB, List.flatMap_cons, List.length_append, ← repB, List.length_cons]
    split
    · omega
    · simp only [List.length_cons, List.length_nil]; omega
/-! ### Bytes of a text that is put in -/
def markA : List UInt8 := [27, 91, 50, 48, 48, 126]
def markB : List UInt8 := [27, 91, 50, 48, 49, 126]
def bytesL (s : List UInt8) (marked : Bool) : List UInt8 × Int := if 4000 < s.length then ([], 2) else (if marked = true then markA ++ repB 27 [] (repB 10 [13] s) ++ markB else repB 10 [13] s, 0)
theorem bytes_ok (hM : MaxI W) (s : List UInt8) (marked : Bool) (hs : s.length ≤ 140737488355328) : Pure Tryd.prog W 24 [.str s, .bool marked] (.tup [.str (bytesL s marked).1, .int .i64 (bytesL s marked).2]) := by
  rw [bytesL]
  by_cases hl : 4000 < s.length
  · rw [if_pos hl]
    refine Pure.of (acalls_of_vc (drawOk W) Tryd.func24 rfl (by decide) (by decide) rfl ?_)
    (refine g0_ ?_; repeat ((first | refine n1_ fun b_ => ?_ | refine n2_ fun b_ => ?_ | refine Nat1.mk fun q_ hq_ => ?_ | refine em_ fun x_ hx_ => ?_ | refine Elem1.mk fun e_ he_ => ?_); refine g0_ ?_))
    (refine g1_ ?_; repeat ((first | refine n1_ fun b_ => ?_ | refine n2_ fun b_ => ?_ | refine Nat1.mk fun q_ hq_ => ?_ | refine em_ fun x_ hx_ => ?_ | refine Elem1.mk fun e_ he_ => ?_); refine g1_ ?_))
    exact .refl _
  · rw [if_neg hl]
    have h1 := replaceAll_ok W hM s 10 [13] (by decide) (by omega) (by decide)
    have hl1 := repB_len 10 [13] (by decide) s
    have h2 := replaceAll_ok W hM (repB 10 [13] s) 27 [] (by decide) (by omega) (by decide)
    have hl2 := repB_len 27 [] (by decide) (repB 10 [13] s)
    cases marked
    · refine Pure.of (acalls_of_vc (drawOk W) Tryd.func24 rfl (by decide) (by decide) rfl ?_)
      (refine g0_ ?_; repeat ((first | refine n1_ fun b_ => ?_ | refine n2_ fun b_ => ?_ | refine Nat1.mk fun q_ hq_ => ?_ | refine em_ fun x_ hx_ => ?_ | refine Elem1.mk fun e_ he_ => ?_); refine g0_ ?_))
      (refine g1_ ?_; repeat ((first | refine n1_ fun b_ => ?_ | refine n2_ fun b_ => ?_ | refine Nat1.mk fun q_ hq_ => ?_ | refine em_ fun x_ hx_ => ?_ | refine Elem1.mk fun e_ he_ => ?_); refine g1_ ?_))
      refine (h1).use ?_; (refine g0_ ?_; repeat ((first | refine n1_ fun b_ => ?_ | refine n2_ fun b_ => ?_ | refine Nat1.mk fun q_ hq_ => ?_ | refine em_ fun x_ hx_ => ?_ | refine Elem1.mk fun e_ he_ => ?_); refine g0_ ?_))
      (refine g1_ ?_; repeat ((first | refine n1_ fun b_ => ?_ | refine n2_ fun b_ => ?_ | refine Nat1.mk fun q_ hq_ => ?_ | refine em_ fun x_ hx_ => ?_ | refine Elem1.mk fun e_ he_ => ?_); refine g1_ ?_))
      exact .refl _
    · refine Pure.of (acalls_of_vc (drawOk W) Tryd.func24 rfl (by decide) (by decide) rfl ?_)
      (refine g0_ ?_; repeat ((first | refine n1_ fun b_ => ?_ | refine n2_ fun b_ => ?_ | refine Nat1.mk fun q_ hq_ => ?_ | refine em_ fun x_ hx_ => ?_ | refine Elem1.mk fun e_ he_ => ?_); refine g0_ ?_))
      (refine g1_ ?_; repeat ((first | refine n1_ fun b_ => ?_ | refine n2_ fun b_ => ?_ | refine Nat1.mk fun q_ hq_ => ?_ | refine em_ fun x_ hx_ => ?_ | refine Elem1.mk fun e_ he_ => ?_); refine g1_ ?_))
      refine (h1).use ?_; (refine g0_ ?_; repeat ((first | refine n1_ fun b_ => ?_ | refine n2_ fun b_ => ?_ | refine Nat1.mk fun q_ hq_ => ?_ | refine em_ fun x_ hx_ => ?_ | refine Elem1.mk fun e_ he_ => ?_); refine g0_ ?_))
      (refine g1_ ?_; repeat ((first | refine n1_ fun b_ => ?_ | refine n2_ fun b_ => ?_ | refine Nat1.mk fun q_ hq_ => ?_ | refine em_ fun x_ hx_ => ?_ | refine Elem1.mk fun e_ he_ => ?_); refine g1_ ?_))
      refine (h2).use ?_; (refine g0_ ?_; repeat ((first | refine n1_ fun b_ => ?_ | refine n2_ fun b_ => ?_ | refine Nat1.mk fun q_ hq_ => ?_ | refine em_ fun x_ hx_ => ?_ | refine Elem1.mk fun e_ he_ => ?_); refine g0_ ?_))
      (refine g1_ ?_; repeat ((first | refine n1_ fun b_ => ?_ | refine n2_ fun b_ => ?_ | refine Nat1.mk fun q_ hq_ => ?_ | refine em_ fun x_ hx_ => ?_ | refine Elem1.mk fun e_ he_ => ?_); refine g1_ ?_))
      exact .refl _
/-! ### Texts that are kept -/
theorem strs_all (l : List (List UInt8)) : (l.map PV.str).all cellsB = true := by simp [cellsB, PV.flat, cellB]
theorem clone_strs0 (a : Option Addr) (c : Nat) : Pure Tryd.prog W 23 [.lit (.slice a 0 c)] (.sl 1 []) := by
  refine Pure.of (acalls_of_vc (drawOk W) Tryd.func23 rfl (by decide) (by decide) rfl ?_)
  (refine g0_ ?_; repeat ((first | refine n1_ fun b_ => ?_ | refine n2_ fun b_ => ?_ | refine Nat1.mk fun q_ hq_ => ?_ | refine em_ fun x_ hx_ => ?_ | refine Elem1.mk fun e_ he_ => ?_); refine g0_ ?_))
  refine ⟨_, eql_nil Tryd.underlying22 (.inl ⟨_, _, rfl, rfl⟩), ?_⟩
  (refine g0_ ?_; repeat ((first | refine n1_ fun b_ => ?_ | refine n2_ fun b_ => ?_ | refine Nat1.mk fun q_ hq_ => ?_ | refine em_ fun x_ hx_ => ?_ | refine Elem1.mk fun e_ he_ => ?_); refine g0_ ?_))
  refine brec ?_; intro c_ h; (try rw [h]); cases c_ <;> replace h := nm_ h
  · (refine g0_ ?_; repeat ((first | refine n1_ fun b_ => ?_ | refine n2_ fun b_ => ?_ | refine Nat1.mk fun q_ hq_ => ?_ | refine em_ fun x_ hx_ => ?_ | refine Elem1.mk fun e_ he_ => ?_); refine g0_ ?_))
    refine .inr ?_
    (refine g0_ ?_; repeat ((first | refine n1_ fun b_ => ?_ | refine n2_ fun b_ => ?_ | refine Nat1.mk fun q_ hq_ => ?_ | refine em_ fun x_ hx_ => ?_ | refine Elem1.mk fun e_ he_ => ?_); refine g0_ ?_))
    exact frz_row (.here _ _ _) _ rfl
  · (refine g0_ ?_; repeat ((first | refine n1_ fun b_ => ?_ | refine n2_ fun b_ => ?_ | refine Nat1.mk fun q_ hq_ => ?_ | refine em_ fun x_ hx_ => ?_ | refine Elem1.mk fun e_ he_ => ?_); refine g0_ ?_))
    exact .nils _
theorem clone_strs1 (x : List UInt8) (l : List (List UInt8)) (hl : (l.length + 1) * 16 ≤ 140737488355328) : ACalls Tryd.prog W 23 [.sl 1 ((x :: l).map PV.str)] [] (GivesRow 1 ((x :: l).map PV.str)) := by
  refine acalls_of_vc (drawOk W) Tryd.func23 rfl (by decide) (by decide) rfl ?_
  have hc : ((x :: l).map PV.str).all cellsB = true := by simp [cellsB, PV.flat, cellB]
  rw [List.map_cons] at *
  (refine g0_ ?_; repeat ((first | refine n1_ fun b_ => ?_ | refine n2_ fun b_ => ?_ | refine Nat1.mk fun q_ hq_ => ?_ | refine em_ fun x_ hx_ => ?_ | refine Elem1.mk fun e_ he_ => ?_); refine g0_ ?_))
  refine ⟨_, eql_nil Tryd.underlying22 (.inr (.inl ⟨_, _, _, rfl, rfl⟩)), ?_⟩
  (refine g0_ ?_; repeat ((first | refine n1_ fun b_ => ?_ | refine n2_ fun b_ => ?_ | refine Nat1.mk fun q_ hq_ => ?_ | refine em_ fun x_ hx_ => ?_ | refine Elem1.mk fun e_ he_ => ?_); refine g0_ ?_))
  refine .inr ?_
  (refine g0_ ?_; repeat ((first | refine n1_ fun b_ => ?_ | refine n2_ fun b_ => ?_ | refine Nat1.mk fun q_ hq_ => ?_ | refine em_ fun x_ hx_ => ?_ | refine Elem1.mk fun e_ he_ => ?_); refine g0_ ?_))
  exact GivesRow.mk _ (by simp) wkMem.rfl'
theorem clone_strs (l : List (List UInt8)) (hl : l.length * 16 ≤ 140737488355328) : Pure Tryd.prog W 23 [.sl 1 (l.map PV.str)] (.sl 1 (l.map PV.str)) := by
  cases l with
  | nil => exact Pure.of_empty (clone_strs0 W)
  | cons x l => exact GivesRow.pure W (clone_strs1 W x l (by simpa using hl))
def keepL (l : List (List UInt8)) (s : List UInt8) : List (List UInt8) × Int := if 5 < l.length ∨ 4000 < s.length then ([], 2) else ((s :: l).take 5, 0)
theorem keep_ok (l : List (List UInt8)) (s : List UInt8) (hl : l.length ≤ 17592186044416) (hs : s.length ≤ 140737488355328) : Pure Tryd.prog W 22 [.sl 1 (l.map PV.str), .str s] (.tup [.sl 1 ((keepL l s).1.map PV.str), .int .i64 (keepL l s).2]) := by
  have hlm : (l.map PV.str).length = l.length := List.length_map _
  have hal := strs_all l
  rw [keepL]
  by_cases h1 : 5 < l.length
  · rw [if_pos (.inl h1)]
    refine Pure.of (acalls_of_vc (drawOk W) Tryd.func22 rfl (by decide) (by decide) rfl ?_)
    (refine g0_ ?_; repeat ((first | refine n1_ fun b_ => ?_ | refine n2_ fun b_ => ?_ | refine Nat1.mk fun q_ hq_ => ?_ | refine em_ fun x_ hx_ => ?_ | refine Elem1.mk fun e_ he_ => ?_); refine g0_ ?_))
    (refine g1_ ?_; repeat ((first | refine n1_ fun b_ => ?_ | refine n2_ fun b_ => ?_ | refine Nat1.mk fun q_ hq_ => ?_ | refine em_ fun x_ hx_ => ?_ | refine Elem1.mk fun e_ he_ => ?_); refine g1_ ?_))
    exact frz_tup2 (.nils _) (.refl _)
  · by_cases h2 : 4000 < s.length
    · rw [if_pos (.inr h2)]
      refine Pure.of (acalls_of_vc (drawOk W) Tryd.func22 rfl (by decide) (by decide) rfl ?_)
      (refine g0_ ?_; repeat ((first | refine n1_ fun b_ => ?_ | refine n2_ fun b_ => ?_ | refine Nat1.mk fun q_ hq_ => ?_ | refine em_ fun x_ hx_ => ?_ | refine Elem1.mk fun e_ he_ => ?_); refine g0_ ?_))
      (refine g1_ ?_; repeat ((first | refine n1_ fun b_ => ?_ | refine n2_ fun b_ => ?_ | refine Nat1.mk fun q_ hq_ => ?_ | refine em_ fun x_ hx_ => ?_ | refine Elem1.mk fun e_ he_ => ?_); refine g1_ ?_))
      exact frz_tup2 (.nils _) (.refl _)
    · rw [if_neg (by omega)]
      refine Pure.of (acalls_of_vc (drawOk W) Tryd.func22 rfl (by decide) (by decide) rfl ?_)
      (refine g0_ ?_; repeat ((first | refine n1_ fun b_ => ?_ | refine n2_ fun b_ => ?_ | refine Nat1.mk fun q_ hq_ => ?_ | refine em_ fun x_ hx_ => ?_ | refine Elem1.mk fun e_ he_ => ?_); refine g0_ ?_))
      (refine g1_ ?_; repeat ((first | refine n1_ fun b_ => ?_ | refine n2_ fun b_ => ?_ | refine Nat1.mk fun q_ hq_ => ?_ | refine em_ fun x_ hx_ => ?_ | refine Elem1.mk fun e_ he_ => ?_); refine g1_ ?_))
      refine .inr ?_
      (refine g1_ ?_; repeat ((first | refine n1_ fun b_ => ?_ | refine n2_ fun b_ => ?_ | refine Nat1.mk fun q_ hq_ => ?_ | refine em_ fun x_ hx_ => ?_ | refine Elem1.mk fun e_ he_ => ?_); refine g1_ ?_))
      have hql : q_ = ((s :: l).take 5).length := by
        simp only [List.length_map, List.length_cons, List.length_nil] at hq_
        rw [List.length_take, List.length_cons]
        split at hq_ <;> omega
      have htl : ((s :: l).take 5).length ≤ (s :: l).length := by rw [List.length_take]; omega
      refine frz_tup2 (Frz.rsl b_ 1 0 q_ ((s :: l).map PV.str) (((s :: l).take 5).map PV.str) 0 [] (.here _ _ _) (by rw [List.length_map]; omega) (by rw [List.length_map]; omega) (fun j hj => ?_)) (.refl _)
      have e : ((s :: l).map PV.str).getD (0 + j) .dead = (((s :: l).take 5).map PV.str).getD j .dead := by
        have h5 : j < 5 := by rw [List.length_take] at hql; omega
        rw [Nat.zero_add, List.getD_eq_getElem?_getD, List.getD_eq_getElem?_getD, List.map_take, List.getElem?_take, if_pos h5]
      rw [e]
      exact .refl _
theorem equal_strs (a b : List (List UInt8)) (ha : (a.length : Int) ≤ 9223372036854775807) :
    Pure Tryd.prog W 25 [.sl 1 (a.map PV.str), .sl 1 (b.map PV.str)] (.bool (decide (a = b))) := by
  refine Pure.of (acalls_of_vc (drawOk W) Tryd.func25 rfl (by decide) (by decide) rfl ?_)
  (refine g0_ ?_; repeat ((first | refine n1_ fun b_ => ?_ | refine n2_ fun b_ => ?_ | refine Nat1.mk fun q_ hq_ => ?_ | refine em_ fun x_ hx_ => ?_ | refine Elem1.mk fun e_ he_ => ?_); refine g0_ ?_))
  refine brec ?_; intro c_ hc; (try rw [hc]); cases c_ <;> replace hc := nm_ hc
  · have hlen : a.length = b.length := by simp at hc; omega
    (refine g0_ ?_; repeat ((first | refine n1_ fun b_ => ?_ | refine n2_ fun b_ => ?_ | refine Nat1.mk fun q_ hq_ => ?_ | refine em_ fun x_ hx_ => ?_ | refine Elem1.mk fun e_ he_ => ?_); refine g0_ ?_))
    refine' loopI (α := Nat) (fun i => [(13, .int .i64 i)]) [(0, _), (1, _), (12, _)] (fun i => []) (fun i => i ≤ a.length ∧ a.take i = b.take i) (fun i => a.length - i) 0 ?_ ?_
    · exact ⟨Nat.zero_le _, by simp⟩
    rintro i ⟨hi, hw⟩
    (refine g0_ ?_; repeat ((first | refine n1_ fun b_ => ?_ | refine n2_ fun b_ => ?_ | refine Nat1.mk fun q_ hq_ => ?_ | refine em_ fun x_ hx_ => ?_ | refine Elem1.mk fun e_ he_ => ?_); refine g0_ ?_))
    refine brec ?_; intro c_ h1; (try rw [h1]); cases c_ <;> replace h1 := nm_ h1
    · (refine g0_ ?_; repeat ((first | refine n1_ fun b_ => ?_ | refine n2_ fun b_ => ?_ | refine Nat1.mk fun q_ hq_ => ?_ | refine em_ fun x_ hx_ => ?_ | refine Elem1.mk fun e_ he_ => ?_); refine g0_ ?_))
      have : i = a.length := by simp at h1; omega
      subst this
      rw [List.take_length, hlen, List.take_length] at hw
      rw [hw]
      simp
      exact .refl _
    · have hlt : i < a.length := by simp at h1; omega
      (refine g0_ ?_; repeat ((first | refine n1_ fun b_ => ?_ | refine n2_ fun b_ => ?_ | refine Nat1.mk fun q_ hq_ => ?_ | refine em_ fun x_ hx_ => ?_ | refine Elem1.mk fun e_ he_ => ?_); refine g0_ ?_))
      refine head_ ?_; (refine g0_ ?_; repeat ((first | refine n1_ fun b_ => ?_ | refine n2_ fun b_ => ?_ | refine Nat1.mk fun q_ hq_ => ?_ | refine em_ fun x_ hx_ => ?_ | refine Elem1.mk fun e_ he_ => ?_); refine g0_ ?_))
      rename_i x hx
      refine brec ?_; intro c_ h2; (try rw [h2]); cases c_ <;> replace h2 := nm_ h2
      · (refine g0_ ?_; repeat ((first | refine n1_ fun b_ => ?_ | refine n2_ fun b_ => ?_ | refine Nat1.mk fun q_ hq_ => ?_ | refine em_ fun x_ hx_ => ?_ | refine Elem1.mk fun e_ he_ => ?_); refine g0_ ?_))
        refine nx_ (i + 1) ?_ ?_
        · exact ⟨hlt, by rw [take_snoc_of hx, take_snoc_of hx_, hw, h2]⟩
        · omega
      · (refine g0_ ?_; repeat ((first | refine n1_ fun b_ => ?_ | refine n2_ fun b_ => ?_ | refine Nat1.mk fun q_ hq_ => ?_ | refine em_ fun x_ hx_ => ?_ | refine Elem1.mk fun e_ he_ => ?_); refine g0_ ?_))
        have : a ≠ b := by rintro rfl; simp_all
        simp [this]
        exact .refl _
  · have hne : a ≠ b := by
      rintro rfl
      exact hc rfl
    (refine g0_ ?_; repeat ((first | refine n1_ fun b_ => ?_ | refine n2_ fun b_ => ?_ | refine Nat1.mk fun q_ hq_ => ?_ | refine em_ fun x_ hx_ => ?_ | refine Elem1.mk fun e_ he_ => ?_); refine g0_ ?_))
    simp [hne]
    exact .refl _
/-! ### What the document puts in -/
def putB (marked : Bool) (s : List UInt8) : List UInt8 := s.flatMap fun c => if c = 10 then [13] else if marked = true ∧ c = 27 then [] else [c]
theorem putB_no (s : List UInt8) : putB false s = repB 10 [13] s := by simp [putB, repB]
theorem repB_append (c : UInt8) (n a b : List UInt8) : repB c n (a ++ b) = repB c n a ++ repB c n b := by simp [repB]
theorem repB_one (c : UInt8) (n : List UInt8) (b : UInt8) : repB c n [b] = if b = c then n else [b] := by simp [repB]
theorem repB_cons (c : UInt8) (n : List UInt8) (b : UInt8) (s : List UInt8) : repB c n (b :: s) = (if b = c then n else [b]) ++ repB c n s := by simp [repB]
theorem putB_cons (m : Bool) (b : UInt8) (s : List UInt8) : putB m (b :: s) = (if b = 10 then [13] else if m = true ∧ b = 27 then [] else [b]) ++ putB m s := by simp [putB]
theorem putB_yes : ∀ s : List UInt8, repB 27 [] (repB 10 [13] s) = putB true s
  | [] => rfl
  | c :: s => by
    rw [repB_cons, repB_append, putB_yes s, putB_cons]
    congr 1
    by_cases h : c = 10
    · rw [if_pos h, if_pos h]; rfl
    · rw [if_neg h, if_neg h, repB_one]
      simp
theorem putB_len (m : Bool) : ∀ s : List UInt8, (putB m s).length ≤ s.length
  | [] => Nat.le_refl _
  | c :: s => by
    have ih := putB_len m s
    rw [putB, List.flatMap_cons, List.length_append, ← putB, List.length_cons]
    split
    · simp only [List.length_cons, List.length_nil]; omega
    · split
      · simp only [List.length_nil]; omega
      · simp only [List.length_cons, List.length_nil]; omega
theorem copyKeep_ok (hT : Tabs W) (hM : MaxI W) (ls : List (List UInt8)) (hk : ∀ s ∈ ls, True) (hf : ls.length * 16 ≤ 140737488351232 ∧ ∀ s ∈ ls, s.length ≤ 140737488351232) (s : List UInt8) (hs : s.length ≤ 140737488355328) (marked : Bool) :
    Pure Tryd.prog W 7 [encLines ls, .str s, .bool marked] (.bool true) := by
  have hl : ls.length ≤ 17592186044416 := by omega
  have hcl := clone_strs W ls (by omega)
  have hke := keep_ok W ls s hl hs
  have hby := bytes_ok W hM s marked hs
  have hco := copied_ok W hT
  have hlm : (ls.map PV.str).length = ls.length := List.length_map _
  rw [encLines]
  by_cases hlong : 4000 < s.length
  · rw [keepL, if_pos (.inr hlong)] at hke
    rw [bytesL, if_pos hlong] at hby
    dsimp only at hke hby
    refine Pure.of (acalls_of_vc (drawOk W) Tryd.func7 rfl (by decide) (by decide) rfl ?_)
    (refine g0_ ?_; repeat ((first | refine n1_ fun b_ => ?_ | refine n2_ fun b_ => ?_ | refine Nat1.mk fun q_ hq_ => ?_ | refine em_ fun x_ hx_ => ?_ | refine Elem1.mk fun e_ he_ => ?_); refine g0_ ?_))
    refine (hcl).use ?_; (refine g0_ ?_; repeat ((first | refine n1_ fun b_ => ?_ | refine n2_ fun b_ => ?_ | refine Nat1.mk fun q_ hq_ => ?_ | refine em_ fun x_ hx_ => ?_ | refine Elem1.mk fun e_ he_ => ?_); refine g0_ ?_))
    refine (hke).use ?_; (refine g0_ ?_; repeat ((first | refine n1_ fun b_ => ?_ | refine n2_ fun b_ => ?_ | refine Nat1.mk fun q_ hq_ => ?_ | refine em_ fun x_ hx_ => ?_ | refine Elem1.mk fun e_ he_ => ?_); refine g0_ ?_))
    refine (hby).use ?_; (refine g0_ ?_; repeat ((first | refine n1_ fun b_ => ?_ | refine n2_ fun b_ => ?_ | refine Nat1.mk fun q_ hq_ => ?_ | refine em_ fun x_ hx_ => ?_ | refine Elem1.mk fun e_ he_ => ?_); refine g0_ ?_))
    (refine g1_ ?_; repeat ((first | refine n1_ fun b_ => ?_ | refine n2_ fun b_ => ?_ | refine Nat1.mk fun q_ hq_ => ?_ | refine em_ fun x_ hx_ => ?_ | refine Elem1.mk fun e_ he_ => ?_); refine g1_ ?_))
    refine (hco).use ?_; (refine g0_ ?_; repeat ((first | refine n1_ fun b_ => ?_ | refine n2_ fun b_ => ?_ | refine Nat1.mk fun q_ hq_ => ?_ | refine em_ fun x_ hx_ => ?_ | refine Elem1.mk fun e_ he_ => ?_); refine g0_ ?_))
    (refine g1_ ?_; repeat ((first | refine n1_ fun b_ => ?_ | refine n2_ fun b_ => ?_ | refine Nat1.mk fun q_ hq_ => ?_ | refine em_ fun x_ hx_ => ?_ | refine Elem1.mk fun e_ he_ => ?_); refine g1_ ?_))
    exact Frz.of_eq (by simp)
  · rw [bytesL, if_neg hlong] at hby
    dsimp only at hby
    obtain ⟨⟨kl, ke⟩, hK⟩ : ∃ K, keepL ls s = K := ⟨_, rfl⟩
    rw [hK] at hke
    dsimp only at hke
    obtain ⟨B, hB⟩ : ∃ B, B = (if marked = true then markA ++ repB 27 [] (repB 10 [13] s) ++ markB else repB 10 [13] s) := ⟨_, rfl⟩
    rw [← hB] at hby
    unfold keepL at hK
    refine Pure.of (acalls_of_vc (drawOk W) Tryd.func7 rfl (by decide) (by decide) rfl ?_)
    (refine g0_ ?_; repeat ((first | refine n1_ fun b_ => ?_ | refine n2_ fun b_ => ?_ | refine Nat1.mk fun q_ hq_ => ?_ | refine em_ fun x_ hx_ => ?_ | refine Elem1.mk fun e_ he_ => ?_); refine g0_ ?_))
    refine (hcl).use ?_; (refine g0_ ?_; repeat ((first | refine n1_ fun b_ => ?_ | refine n2_ fun b_ => ?_ | refine Nat1.mk fun q_ hq_ => ?_ | refine em_ fun x_ hx_ => ?_ | refine Elem1.mk fun e_ he_ => ?_); refine g0_ ?_))
    refine (hke).use ?_; (refine g0_ ?_; repeat ((first | refine n1_ fun b_ => ?_ | refine n2_ fun b_ => ?_ | refine Nat1.mk fun q_ hq_ => ?_ | refine em_ fun x_ hx_ => ?_ | refine Elem1.mk fun e_ he_ => ?_); refine g0_ ?_))
    refine (hby).use ?_; (refine g0_ ?_; repeat ((first | refine n1_ fun b_ => ?_ | refine n2_ fun b_ => ?_ | refine Nat1.mk fun q_ hq_ => ?_ | refine em_ fun x_ hx_ => ?_ | refine Elem1.mk fun e_ he_ => ?_); refine g0_ ?_))
    (refine g1_ ?_; repeat ((first | refine n1_ fun b_ => ?_ | refine n2_ fun b_ => ?_ | refine Nat1.mk fun q_ hq_ => ?_ | refine em_ fun x_ hx_ => ?_ | refine Elem1.mk fun e_ he_ => ?_); refine g1_ ?_))
    refine hco.use ?_
    (refine gdj_ ?_; repeat ((first | refine n1_ fun b_ => ?_ | refine n2_ fun b_ => ?_ | refine Nat1.mk fun q_ hq_ => ?_ | refine em_ fun x_ hx_ => ?_ | refine Elem1.mk fun e_ he_ => ?_); refine gdj_ ?_))
    refine CondC.part ?_
    (refine gdj_ ?_; repeat ((first | refine n1_ fun b_ => ?_ | refine n2_ fun b_ => ?_ | refine Nat1.mk fun q_ hq_ => ?_ | refine em_ fun x_ hx_ => ?_ | refine Elem1.mk fun e_ he_ => ?_); refine gdj_ ?_))
    first | refine' joinT (α := Unit) (fun u => []) [(1, _), (2, _), (9, _), (10, _), (11, _)] (fun u => []) (fun u => True) ?_ ?_ | refine' joinF (α := Unit) (fun u => []) [(1, _), (2, _), (9, _), (10, _), (11, _)] (fun u => []) (fun u => True) ?_ ?_
    · by_cases hm : 5 < ls.length
      · rw [if_pos (.inl hm)] at hK
        cases hK
        (refine g1_ ?_; repeat ((first | refine n1_ fun b_ => ?_ | refine n2_ fun b_ => ?_ | refine Nat1.mk fun q_ hq_ => ?_ | refine em_ fun x_ hx_ => ?_ | refine Elem1.mk fun e_ he_ => ?_); refine g1_ ?_))
        refine jx_ () ?_
        trivial
      · rw [if_neg (by omega)] at hK
        cases hK
        have hal := strs_all (ls.take (min ls.length 4))
        have htl : (ls.take (min ls.length 4)).length ≤ 4 := by rw [List.length_take]; omega
        have htm : ((ls.take (min ls.length 4)).map PV.str).length = (ls.take (min ls.length 4)).length := List.length_map _
        have htk : (s :: ls).take 5 = s :: ls.take (min ls.length 4) := by
          rw [List.take_succ_cons]
          by_cases h4 : 4 < ls.length
          · rw [show min ls.length 4 = 4 by omega]
          · rw [show min ls.length 4 = ls.length by omega, List.take_length, List.take_of_length_le (by omega)]
        rw [htk] at hke
        (refine g1_ ?_; repeat ((first | refine n1_ fun b_ => ?_ | refine n2_ fun b_ => ?_ | refine Nat1.mk fun q_ hq_ => ?_ | refine em_ fun x_ hx_ => ?_ | refine Elem1.mk fun e_ he_ => ?_); refine g1_ ?_))
        refine .inr ?_
        (refine g1_ ?_; repeat ((first | refine n1_ fun b_ => ?_ | refine n2_ fun b_ => ?_ | refine Nat1.mk fun q_ hq_ => ?_ | refine em_ fun x_ hx_ => ?_ | refine Elem1.mk fun e_ he_ => ?_); refine g1_ ?_))
        obtain rfl : q_ = min ls.length 4 := by split at hq_ <;> omega
        (refine g1_ ?_; repeat ((first | refine n1_ fun b_ => ?_ | refine n2_ fun b_ => ?_ | refine Nat1.mk fun q_ hq_ => ?_ | refine em_ fun x_ hx_ => ?_ | refine Elem1.mk fun e_ he_ => ?_); refine g1_ ?_))
        refine (equal_strs W (s :: ls.take (min ls.length 4)) (s :: ls.take (min ls.length 4)) (by simp only [List.length_cons]; omega)).borrow rfl rfl (fun j hj => ?_) ?_
        · match j, hj with
          | 0, _ =>
            show Frz _ (.sl 1 (((s :: ls).take 5).map PV.str)) (.sl 1 ((s :: ls.take (min ls.length 4)).map PV.str))
            rw [htk]
            exact .refl _
          | 1, _ => exact frz_row (.here _ _ _) _ (by simp; try omega)
        rw [decide_eq_true rfl]
        (refine g1_ ?_; repeat ((first | refine n1_ fun b_ => ?_ | refine n2_ fun b_ => ?_ | refine Nat1.mk fun q_ hq_ => ?_ | refine em_ fun x_ hx_ => ?_ | refine Elem1.mk fun e_ he_ => ?_); refine g1_ ?_))
        refine jx_ () ?_
        trivial
    rintro - -
    clear hK hke hcl
    (refine g1_ ?_; repeat ((first | refine n1_ fun b_ => ?_ | refine n2_ fun b_ => ?_ | refine Nat1.mk fun q_ hq_ => ?_ | refine em_ fun x_ hx_ => ?_ | refine Elem1.mk fun e_ he_ => ?_); refine g1_ ?_))
    refine' loopI (α := Nat × (List UInt8)) (fun (i, a) => [(69, .int .i64 i), (12, .str a)]) [(1, _), (2, _), (9, _), (10, _), (68, _)] (fun (i, a) => []) (fun (i, a) => i ≤ s.length ∧ a ++ putB marked (s.drop i) = putB marked s ∧ a.length ≤ i) (fun (i, a) => s.length - i) (0, []) ?_ ?_
    · exact ⟨Nat.zero_le _, rfl, by simp⟩
    rintro ⟨i, a⟩ ⟨hi, ha, hal⟩
    (refine g0_ ?_; repeat ((first | refine n1_ fun b_ => ?_ | refine n2_ fun b_ => ?_ | refine Nat1.mk fun q_ hq_ => ?_ | refine em_ fun x_ hx_ => ?_ | refine Elem1.mk fun e_ he_ => ?_); refine g0_ ?_))
    refine brec ?_; intro c_ h1; (try rw [h1]); cases c_ <;> replace h1 := nm_ h1
    · obtain rfl : i = s.length := by omega
      rw [List.drop_length, show putB marked [] = [] from rfl, List.append_nil] at ha
      have hpl := putB_len marked s
      rw [ha]
      cases marked
      · rw [if_neg (by decide), ← putB_no] at hB
        subst hB
        (refine g1_ ?_; repeat ((first | refine n1_ fun b_ => ?_ | refine n2_ fun b_ => ?_ | refine Nat1.mk fun q_ hq_ => ?_ | refine em_ fun x_ hx_ => ?_ | refine Elem1.mk fun e_ he_ => ?_); refine g1_ ?_))
        exact Frz.of_eq (by simp)
      · rw [if_pos rfl, putB_yes] at hB
        subst hB
        (refine g1_ ?_; repeat ((first | refine n1_ fun b_ => ?_ | refine n2_ fun b_ => ?_ | refine Nat1.mk fun q_ hq_ => ?_ | refine em_ fun x_ hx_ => ?_ | refine Elem1.mk fun e_ he_ => ?_); refine g1_ ?_))
        exact Frz.of_eq (by simp [markA, markB])
    · obtain ⟨c, hc⟩ : ∃ c, s[i]? = some c := ⟨s[i]'(by omega), List.getElem?_eq_getElem _⟩
      rw [drop_cons_of hc, putB_cons] at ha
      have hsl : (s.take (i + 1)).drop i = [c] := by
        rw [take_snoc_of hc, List.drop_append_of_le_length (by simp; omega), List.drop_of_length_le (by simp; omega)]; rfl
      by_cases h10 : c = 10
      · rw [if_pos h10] at ha
        subst h10
        (refine g0_ ?_; repeat ((first | refine n1_ fun b_ => ?_ | refine n2_ fun b_ => ?_ | refine Nat1.mk fun q_ hq_ => ?_ | refine em_ fun x_ hx_ => ?_ | refine Elem1.mk fun e_ he_ => ?_); refine g0_ ?_))
        rw [hc] at he_
        cases he_
        (refine g1_ ?_; repeat ((first | refine n1_ fun b_ => ?_ | refine n2_ fun b_ => ?_ | refine Nat1.mk fun q_ hq_ => ?_ | refine em_ fun x_ hx_ => ?_ | refine Elem1.mk fun e_ he_ => ?_); refine g1_ ?_))
        refine nx_ (i + 1, a ++ [13]) ?_ ?_
        · exact ⟨by omega, by rw [← ha]; simp, by rw [List.length_append]; simp; omega⟩
        · ((try dsimp only); (try simp only [List.length_drop, List.length_take, List.length_append, List.length_cons, List.length_nil, List.length_map] at *); omega)
      · rw [if_neg h10] at ha
        have h10' : ¬ (c.toNat : Int) = 10 := fun e => h10 (UInt8.toNat_inj.1 (show c.toNat = (10 : UInt8).toNat by have : (10 : UInt8).toNat = 10 := rfl; omega))
        cases marked
        · rw [if_neg (by simp)] at ha
          (refine g0_ ?_; repeat ((first | refine n1_ fun b_ => ?_ | refine n2_ fun b_ => ?_ | refine Nat1.mk fun q_ hq_ => ?_ | refine em_ fun x_ hx_ => ?_ | refine Elem1.mk fun e_ he_ => ?_); refine g0_ ?_))
          rw [hc] at he_
          cases he_
          (refine g1_ ?_; repeat ((first | refine n1_ fun b_ => ?_ | refine n2_ fun b_ => ?_ | refine Nat1.mk fun q_ hq_ => ?_ | refine em_ fun x_ hx_ => ?_ | refine Elem1.mk fun e_ he_ => ?_); refine g1_ ?_))
          rw [hsl]
          refine nx_ (i + 1, a ++ [c]) ?_ ?_
          · exact ⟨by omega, by rw [← ha]; simp, by rw [List.length_append]; simp; omega⟩
          · ((try dsimp only); (try simp only [List.length_drop, List.length_take, List.length_append, List.length_cons, List.length_nil, List.length_map] at *); omega)
        · by_cases h27 : c = 27
          · rw [if_pos ⟨rfl, h27⟩, List.nil_append] at ha
            subst h27
            (refine g0_ ?_; repeat ((first | refine n1_ fun b_ => ?_ | refine n2_ fun b_ => ?_ | refine Nat1.mk fun q_ hq_ => ?_ | refine em_ fun x_ hx_ => ?_ | refine Elem1.mk fun e_ he_ => ?_); refine g0_ ?_))
            rw [hc] at he_
            cases he_
            (refine g1_ ?_; repeat ((first | refine n1_ fun b_ => ?_ | refine n2_ fun b_ => ?_ | refine Nat1.mk fun q_ hq_ => ?_ | refine em_ fun x_ hx_ => ?_ | refine Elem1.mk fun e_ he_ => ?_); refine g1_ ?_))
            rw [hc] at he_
            cases he_
            (refine g1_ ?_; repeat ((first | refine n1_ fun b_ => ?_ | refine n2_ fun b_ => ?_ | refine Nat1.mk fun q_ hq_ => ?_ | refine em_ fun x_ hx_ => ?_ | refine Elem1.mk fun e_ he_ => ?_); refine g1_ ?_))
            refine nx_ (i + 1, a) ?_ ?_
            · exact ⟨by omega, ha, by omega⟩
            · ((try dsimp only); (try simp only [List.length_drop, List.length_take, List.length_append, List.length_cons, List.length_nil, List.length_map] at *); omega)
          · rw [if_neg (fun h => h27 h.2)] at ha
            have h27' : ¬ (c.toNat : Int) = 27 := fun e => h27 (UInt8.toNat_inj.1 (show c.toNat = (27 : UInt8).toNat by have : (27 : UInt8).toNat = 27 := rfl; omega))
            (refine g0_ ?_; repeat ((first | refine n1_ fun b_ => ?_ | refine n2_ fun b_ => ?_ | refine Nat1.mk fun q_ hq_ => ?_ | refine em_ fun x_ hx_ => ?_ | refine Elem1.mk fun e_ he_ => ?_); refine g0_ ?_))
            rw [hc] at he_
            cases he_
            (refine g1_ ?_; repeat ((first | refine n1_ fun b_ => ?_ | refine n2_ fun b_ => ?_ | refine Nat1.mk fun q_ hq_ => ?_ | refine em_ fun x_ hx_ => ?_ | refine Elem1.mk fun e_ he_ => ?_); refine g1_ ?_))
            first
              | (rw [hc] at he_
                 cases he_
                 (refine g1_ ?_; repeat ((first | refine n1_ fun b_ => ?_ | refine n2_ fun b_ => ?_ | refine Nat1.mk fun q_ hq_ => ?_ | refine em_ fun x_ hx_ => ?_ | refine Elem1.mk fun e_ he_ => ?_); refine g1_ ?_)))
              | skip
            rw [hsl]
            refine nx_ (i + 1, a ++ [c]) ?_ ?_
            · exact ⟨by omega, by rw [← ha]; simp, by rw [List.length_append]; simp; omega⟩
            · ((try dsimp only); (try simp only [List.length_drop, List.length_take, List.length_append, List.length_cons, List.length_nil, List.length_map] at *); omega)
end Go.Eng.YtdepccblnhkmkaaDoor
end
