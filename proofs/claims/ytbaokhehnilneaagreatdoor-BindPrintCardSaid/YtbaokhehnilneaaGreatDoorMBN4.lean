/- Texts put together: BndQ, BndV. -/
import Derived.Test.YtbaokhehnilneaaGreatDoorMBN1
import Derived.Test.YtbaokhehnilneaaGreatDoorMRA
import Derived.Test.YtbaokhehnilneaaGreatDoorMBN2
import Derived.Test.YtbaokhehnilneaaGreatDoorMRB
import Derived.Test.YtbaokhehnilneaaGreatDoorME6
/- The reference's words of a command are the program's (plain). -/
section
namespace Go.Eng.YtbaokhehnilneaaGreatDoor
open Go Go.Eng Go.Proofs
set_option linter.unusedSimpArgs false
set_option maxRecDepth 100000
set_option linter.unusedVariables false
set_option maxHeartbeats 4000000
abbrev RS := List (List UInt8) × Bool
def openQ (x : RS) : List (List UInt8) := if x.2 then x.1 else x.1 ++ [[]]
def addW (x : RS) (p : List UInt8) : RS := ((openQ x).dropLast ++ [(openQ x).getLastD [] ++ p], true)
def wordQ (x : RS) (j : Nat) (w : List UInt8) : RS :=
  if w = [] then (x.1, if 0 < j then false else x.2) else addW (x.1, if 0 < j then false else x.2) w
def rowQw : Nat → RS → List (List UInt8) → RS
  | _, x, [] => x
  | j, x, w :: l => rowQw (j + 1) (wordQ x j w) l
def partQ (x : RS) (i : Nat) (p : List UInt8) : RS := if i % 2 = 1 then addW x p else rowQw 0 x (splt 32 p)
def partsQ : Nat → RS → List (List UInt8) → RS
  | _, x, [] => x
  | i, x, p :: l => partsQ (i + 1) (partQ x i p) l
def wordsQ (s : List UInt8) : List (List UInt8) × Int :=
  if 4000 < s.length then ([], 2) else if (splt 39 s).length % 2 = 0 then ([], 1) else ((partsQ 0 ([], false) (splt 39 s)).1, 0)
def atW (x : WS) : RS := (endW x, x.some)
def fineW (x : WS) : Prop := x.some = false → x.word = []
theorem fine_step {x : WS} (h : fineW x) (c : UInt8) : fineW (stepWd x c) := by
  unfold stepWd
  split
  · intro e; cases e
  · split
    · intro _; rfl
    · intro e; cases e
theorem fine_run : ∀ (p : List UInt8) {x : WS}, fineW x → fineW (p.foldl stepWd x)
  | [], _, h => h
  | c :: p, _, h => by rw [List.foldl_cons]; exact fine_run p (fine_step h c)
theorem add_at {x : WS} (h : fineW x) (p : List UInt8) : addW (atW x) p = (x.out ++ [x.word ++ p], true) := by
  obtain ⟨o, w, s, q⟩ := x
  cases s
  · have hw : w = [] := h rfl
    subst hw
    simp [addW, atW, openQ, endW]
  · simp [addW, atW, openQ, endW]
theorem word_at {x : WS} (h : fineW x) {w : List UInt8} (h1 : ¬ 39 ∈ w) (h2 : x.quoted = true ∨ ¬ 32 ∈ w) {j : Nat} (hj : j = 0 ∨ x.some = false) : wordQ (atW x) j w = atW (w.foldl stepWd x) := by
  have ho : (if 0 < j then false else (atW x).2) = (atW x).2 := by
    rcases hj with rfl | e
    · rfl
    · unfold atW
      rw [e]
      split <;> rfl
  unfold wordQ
  rw [ho, step_run w x h1 h2]
  split
  · rename_i e
    subst e
    obtain ⟨o, w, s, q⟩ := x
    simp [atW, endW]
  · rename_i e
    rw [show ((atW x).1, (atW x).2) = atW x from rfl, add_at h]
    have : w.isEmpty = false := by cases w with
      | nil => exact absurd rfl e
      | cons _ _ => rfl
    simp [atW, endW, this]
theorem row_first : ∀ (l : List (List UInt8)) (j : Nat) (x y : RS), l ≠ [] → 0 < j → x.1 = y.1 → rowQw j x l = rowQw j y l
  | [], _, _, _, h, _, _ => absurd rfl h
  | w :: l, j, x, y, _, hj, h => by
    rw [rowQw, rowQw]
    have : wordQ x j w = wordQ y j w := by
      unfold wordQ
      rw [if_pos hj, if_pos hj, h]
    rw [this]
theorem row_run : ∀ (n : Nat) (p : List UInt8), p.length ≤ n → ∀ (x : WS) (j : Nat), fineW x → x.quoted = false → ¬ 39 ∈ p → (j = 0 ∨ x.some = false) → rowQw j (atW x) (splt 32 p) = atW (p.foldl stepWd x)
  | n, p, hn, x, j, hx, hq, h39, hj => by
    by_cases h32 : (32 : UInt8) ∈ p
    · obtain ⟨w, t, rfl, hw⟩ := List.eq_append_cons_of_mem h32
      match n, hn with
      | 0, hn => simp at hn
      | n + 1, hn =>
        have h1 : ¬ 39 ∈ w := fun e => h39 (by simp [e])
        have h2 : ¬ 39 ∈ t := fun e => h39 (by simp [e])
        rw [splt_app 32 t hw, rowQw, word_at hx h1 (.inr hw) hj, List.foldl_append, List.foldl_cons]
        have hr := step_run w x h1 (.inr hw)
        have hyq : (w.foldl stepWd x).quoted = false := by rw [hr]; exact hq
        generalize w.foldl stepWd x = y at *
        have e : stepWd y 32 = ⟨endW y, [], false, y.quoted⟩ := by
          unfold stepWd
          rw [if_neg (by decide), if_pos ⟨rfl, hyq⟩]
          rfl
        rw [e, row_first _ _ (atW y) (atW ⟨endW y, [], false, y.quoted⟩) (splt_ne 32 t) (by omega) rfl]
        exact row_run n t (by simp at hn; omega) _ _ (fun _ => rfl) hyq h2 (.inr rfl)
    · rw [splt_plain 32 h32, rowQw, rowQw]
      exact word_at hx h39 (.inr h32) hj
theorem quoted_run : ∀ (p : List UInt8) (x : WS), ¬ 39 ∈ p → (p.foldl stepWd x).quoted = x.quoted
  | [], _, _ => rfl
  | c :: p, x, h => by
    have hc : c ≠ 39 := fun e => h (by simp [e])
    rw [List.foldl_cons, quoted_run p _ fun e => h (by simp [e])]
    unfold stepWd
    rw [if_neg hc]
    split <;> rfl
theorem parts_run : ∀ (l : List (List UInt8)) (i : Nat) (x : WS) (r : RS), l ≠ [] → (∀ p ∈ l, ¬ 39 ∈ p) → fineW x → x.quoted = decide (i % 2 = 1) → (i % 2 = 1 → x.some = true) → (∀ p, addW r p = addW (atW x) p) → (i % 2 = 0 → r = atW x) →
    partsQ i r l = atW ((joinC 39 l).foldl stepWd x) ∧ ((joinC 39 l).foldl stepWd x).quoted = decide ((i + l.length) % 2 = 0)
  | [], _, _, _, h, _, _, _, _, _, _ => absurd rfl h
  | p :: l, i, x, r, _, h39, hx, hq, hs, hr, he => by
    have hp := h39 p (by simp)
    have hfy := fine_run p hx
    have hyq := quoted_run p x hp
    rw [hq] at hyq
    have key : partQ r i p = atW (p.foldl stepWd x) ∧ (i % 2 = 1 → (p.foldl stepWd x).some = true) := by
      unfold partQ
      by_cases hi : i % 2 = 1
      · rw [decide_eq_true hi] at hq
        have h1 := hs hi
        rw [if_pos hi, hr, add_at hx, step_run p x hp (.inl hq), h1]
        exact ⟨rfl, fun _ => rfl⟩
      · rw [decide_eq_false hi] at hq
        rw [if_neg hi, he (by omega)]
        exact ⟨row_run p.length p (Nat.le_refl _) x 0 hx hq hp (.inl rfl), fun e => absurd e hi⟩
    obtain ⟨k1, k2⟩ := key
    rw [partsQ, k1]
    cases l with
    | nil =>
      refine ⟨rfl, ?_⟩
      show (p.foldl stepWd x).quoted = _
      rw [hyq]
      exact decide_eq_decide.2 (by simp only [List.length_cons, List.length_nil]; omega)
    | cons q l =>
      have ej : joinC 39 (p :: q :: l) = p ++ 39 :: joinC 39 (q :: l) := rfl
      rw [ej, List.foldl_append, List.foldl_cons]
      generalize p.foldl stepWd x = y at *
      have ez : stepWd y 39 = ⟨y.out, y.word, true, !y.quoted⟩ := rfl
      rw [ez]
      have hfz : fineW ⟨y.out, y.word, true, !y.quoted⟩ := fun e => by cases e
      have := parts_run (q :: l) (i + 1) ⟨y.out, y.word, true, !y.quoted⟩ (atW y) (by simp) (fun w hw => h39 w (List.mem_cons_of_mem _ hw)) hfz
        (by dsimp only; rw [hyq, ← decide_not]; exact decide_eq_decide.2 (by omega)) (fun _ => rfl) (fun w => by rw [add_at hfy, add_at hfz]) (fun h => by
          have h1 := k2 (by omega)
          unfold atW endW
          dsimp only
          rw [h1])
      refine ⟨this.1, this.2.trans (decide_eq_decide.2 ?_)⟩
      simp only [List.length_cons]
      omega
/-- The reference's words are the program's. -/
theorem words_same (s : List UInt8) : wordsQ s = wordsB s := by
  unfold wordsQ wordsB
  have h := parts_run (splt 39 s) 0 ⟨[], [], false, false⟩ ([], false) (splt_ne 39 s) (fun p hp => splt_mem 39 s p hp) (fun _ => rfl) rfl (fun e => absurd e (by decide)) (fun _ => rfl) (fun _ => rfl)
  rw [join_splt] at h
  unfold runW
  obtain ⟨h1, h2⟩ := h
  rw [Nat.zero_add] at h2
  rw [h1, h2]
  by_cases h4 : 4000 < s.length
  · rw [if_pos h4, if_pos h4]
  · rw [if_neg h4, if_neg h4]
    by_cases hp : (splt 39 s).length % 2 = 0
    · rw [if_pos hp, if_pos (decide_eq_true hp)]
    · rw [if_neg hp, if_neg (by rw [decide_eq_false hp]; decide)]
      rfl
end Go.Eng.YtbaokhehnilneaaGreatDoor
end

/- The reference's words of a command; the check of a table by it (b_ x_ q_ e_). -/
section
namespace Go.Eng.YtbaokhehnilneaaGreatDoor
open Go Go.Eng Go.Proofs Go.Maps
variable (W : World)
set_option linter.unusedSimpArgs false
set_option maxRecDepth 100000
set_option linter.unusedVariables false
set_option maxHeartbeats 8000000
theorem splt_cnt (c : UInt8) : ∀ s : List UInt8, (splt c s).length ≤ s.length + 1
  | [] => by simp [splt]
  | x :: r => by
    have ih := splt_cnt c r
    have hne := List.length_pos_iff.2 (splt_ne c r)
    rw [splt]
    split
    · simp only [List.length_cons]; omega
    · simp only [List.length_cons, List.length_tail]; omega
/-- The last of a row, made longer. -/
theorem set_last (L : List (List UInt8)) (hL : L ≠ []) (p : List UInt8) (n : Nat) (hn : n + 1 = L.length) :
    L[n]? = some (L.getLastD []) ∧ (L.map PV.str).set n (.str (L.getLastD [] ++ p)) = (L.dropLast ++ [L.getLastD [] ++ p]).map PV.str := by
  obtain ⟨i, z, rfl⟩ : ∃ i z, L = i ++ [z] := ⟨L.dropLast, L.getLast hL, (List.dropLast_concat_getLast hL).symm⟩
  have e : (i ++ [z]).getLastD [] = z := by simp
  rw [List.length_append, List.length_singleton] at hn
  obtain rfl : n = i.length := by omega
  rw [e]
  refine ⟨by simp, ?_⟩
  rw [List.map_append, List.set_append_right _ _ (by simp)]
  simp
def boundQ (B N : Nat) (x : List (List UInt8)) : Prop := (∀ w ∈ x, w.length ≤ B) ∧ x.length ≤ N
theorem bound_open {B N : Nat} {o : List (List UInt8)} (opn : Bool) (h : boundQ B N o) : boundQ B (N + 1) (openQ (o, opn)) := by
  unfold openQ
  cases opn
  · refine ⟨fun w hw => ?_, by simp; exact h.2⟩
    rcases List.mem_append.1 hw with hw | hw
    · exact h.1 w hw
    · rw [List.mem_singleton.1 hw]; exact Nat.zero_le _
  · exact ⟨h.1, Nat.le_succ_of_le h.2⟩
theorem bound_last {B N k : Nat} {L : List (List UInt8)} (hL : L ≠ []) (h : boundQ B N L) {p : List UInt8} (hp : p.length ≤ k) : boundQ (B + k) N (L.dropLast ++ [L.getLastD [] ++ p]) ∧ (L.getLastD []).length ≤ B := by
  obtain ⟨i, z, rfl⟩ : ∃ i z, L = i ++ [z] := ⟨L.dropLast, L.getLast hL, (List.dropLast_concat_getLast hL).symm⟩
  have e : (i ++ [z]).getLastD [] = z := by simp
  have hz := h.1 z (by simp)
  rw [e, List.dropLast_concat]
  refine ⟨⟨fun w hw => ?_, by have := h.2; simp at this ⊢; omega⟩, hz⟩
  rcases List.mem_append.1 hw with hw | hw
  · have := h.1 w (by simp [hw]); omega
  · rw [List.mem_singleton.1 hw, List.length_append]; omega
theorem open_ne {o : List (List UInt8)} {opn : Bool} (h : opn = true → o ≠ []) : openQ (o, opn) ≠ [] := by
  unfold openQ
  cases opn
  · simp
  · exact h rfl
theorem bound_more {B N B' N' : Nat} {x : List (List UInt8)} (h : boundQ B N x) (h1 : B ≤ B') (h2 : N ≤ N') : boundQ B' N' x := ⟨fun w hw => Nat.le_trans (h.1 w hw) h1, Nat.le_trans h.2 h2⟩
theorem bwordsOf_ok (hM : MaxJ W) (s : List UInt8) (hs : s.length ≤ 140737488355328) : Pure Tryz.prog W 12 [.str s] (.tup [.sl 1 ((wordsB s).1.map .str), .int .i64 (wordsB s).2]) := by
  rw [← words_same]
  by_cases h4 : 4000 < s.length
  · have e : wordsQ s = ([], 2) := if_pos h4
    rw [e]
    refine Pure.of (acalls_of_vc (drawOk W) Tryz.func12 rfl (by decide) (by decide) rfl ?_)
    (refine g0_ ?_; repeat ((first | refine n1_ fun b_ => ?_ | refine n2_ fun b_ => ?_ | refine Nat1.mk fun q_ hq_ => ?_ | refine em_ fun x_ hx_ => ?_ | refine Elem1.mk fun e_ he_ => ?_); refine g0_ ?_))
    (refine g1_ ?_; repeat ((first | refine n1_ fun b_ => ?_ | refine n2_ fun b_ => ?_ | refine Nat1.mk fun q_ hq_ => ?_ | refine em_ fun x_ hx_ => ?_ | refine Elem1.mk fun e_ he_ => ?_); refine g1_ ?_))
    exact frz_tup2 (.nils 1) (.refl _)
  · have hE : wordsQ s = if (splt 39 s).length % 2 = 0 then ([], 1) else ((partsQ 0 ([], false) (splt 39 s)).1, 0) := if_neg h4
    have hsp := split_ok W hM s 39 (by omega)
    have hcn := splt_cnt 39 s
    have hln := splt_len 39 s
    generalize splt 39 s = P at *
    have hPm : (P.map PV.str).length = P.length := List.length_map _
    by_cases h2 : P.length % 2 = 0
    · rw [hE, if_pos h2]
      have hm : ((P.length : Nat) : Int).tmod 2 = 0 := by rw [show ((P.length : Nat) : Int).tmod 2 = ((P.length % 2 : Nat) : Int) from rfl, h2]; rfl
      refine Pure.of (acalls_of_vc (drawOk W) Tryz.func12 rfl (by decide) (by decide) rfl ?_)
      (refine g0_ ?_; repeat ((first | refine n1_ fun b_ => ?_ | refine n2_ fun b_ => ?_ | refine Nat1.mk fun q_ hq_ => ?_ | refine em_ fun x_ hx_ => ?_ | refine Elem1.mk fun e_ he_ => ?_); refine g0_ ?_))
      (refine g1_ ?_; repeat ((first | refine n1_ fun b_ => ?_ | refine n2_ fun b_ => ?_ | refine Nat1.mk fun q_ hq_ => ?_ | refine em_ fun x_ hx_ => ?_ | refine Elem1.mk fun e_ he_ => ?_); refine g1_ ?_))
      refine (hsp).use ?_; (refine g0_ ?_; repeat ((first | refine n1_ fun b_ => ?_ | refine n2_ fun b_ => ?_ | refine Nat1.mk fun q_ hq_ => ?_ | refine em_ fun x_ hx_ => ?_ | refine Elem1.mk fun e_ he_ => ?_); refine g0_ ?_))
      rw [hPm, hm]
      (refine g1_ ?_; repeat ((first | refine n1_ fun b_ => ?_ | refine n2_ fun b_ => ?_ | refine Nat1.mk fun q_ hq_ => ?_ | refine em_ fun x_ hx_ => ?_ | refine Elem1.mk fun e_ he_ => ?_); refine g1_ ?_))
      exact frz_tup2 (.nils 1) (.refl _)
    · rw [hE, if_neg h2]
      have hm : ((P.length : Nat) : Int).tmod 2 = 1 := by rw [show ((P.length : Nat) : Int).tmod 2 = ((P.length % 2 : Nat) : Int) from rfl, show P.length % 2 = 1 by omega]; rfl
      generalize hF : partsQ 0 ([], false) P = F
      refine Pure.of (acalls_of_vc (drawOk W) Tryz.func12 rfl (by decide) (by decide) rfl ?_)
      (refine g0_ ?_; repeat ((first | refine n1_ fun b_ => ?_ | refine n2_ fun b_ => ?_ | refine Nat1.mk fun q_ hq_ => ?_ | refine em_ fun x_ hx_ => ?_ | refine Elem1.mk fun e_ he_ => ?_); refine g0_ ?_))
      (refine g1_ ?_; repeat ((first | refine n1_ fun b_ => ?_ | refine n2_ fun b_ => ?_ | refine Nat1.mk fun q_ hq_ => ?_ | refine em_ fun x_ hx_ => ?_ | refine Elem1.mk fun e_ he_ => ?_); refine g1_ ?_))
      refine (hsp).use ?_; (refine g0_ ?_; repeat ((first | refine n1_ fun b_ => ?_ | refine n2_ fun b_ => ?_ | refine Nat1.mk fun q_ hq_ => ?_ | refine em_ fun x_ hx_ => ?_ | refine Elem1.mk fun e_ he_ => ?_); refine g0_ ?_))
      rw [hPm, hm]
      (refine g1_ ?_; repeat ((first | refine n1_ fun b_ => ?_ | refine n2_ fun b_ => ?_ | refine Nat1.mk fun q_ hq_ => ?_ | refine em_ fun x_ hx_ => ?_ | refine Elem1.mk fun e_ he_ => ?_); refine g1_ ?_))
      refine' loopI (α := Nat × (List (List UInt8)) × (List PV) × Nat × Bool) (fun (i, o, O, b, q) => [(22, .int .i64 i), (5, accV b 1 O), (6, .bool q)]) [(20, _), (21, _)] (fun (i, o, O, b, q) => accM b 1 O) (fun (i, o, O, b, q) => i ≤ P.length ∧ partsQ i (o, q) (P.drop i) = F ∧ O = o.map .str ∧ (q = true → o ≠ []) ∧ boundQ (20000000 * i) (5000 * i) o) (fun (i, o, O, b, q) => P.length - i) (0, [], [], 0, false) ?_ ?_
      · exact ⟨Nat.zero_le _, hF, rfl, (fun h => by cases h), (fun w hw => by cases hw), Nat.le_refl _⟩
      rintro ⟨i, o, O, b, q⟩ ⟨hi, hr, hO, hon, hbd⟩
      by_cases h1 : i = P.length
      · subst h1
        rw [List.drop_length] at hr
        have : F = (o, q) := hr.symm
        subst this
        dsimp only
        rcases O with _ | ⟨o0, O⟩
        · (refine g0_ ?_; repeat ((first | refine n1_ fun b_ => ?_ | refine n2_ fun b_ => ?_ | refine Nat1.mk fun q_ hq_ => ?_ | refine em_ fun x_ hx_ => ?_ | refine Elem1.mk fun e_ he_ => ?_); refine g0_ ?_))
          (refine g1_ ?_; repeat ((first | refine n1_ fun b_ => ?_ | refine n2_ fun b_ => ?_ | refine Nat1.mk fun q_ hq_ => ?_ | refine em_ fun x_ hx_ => ?_ | refine Elem1.mk fun e_ he_ => ?_); refine g1_ ?_))
          exact frz_tup2 (frz_nil_eq hO) (.refl _)
        · (refine g0_ ?_; repeat ((first | refine n1_ fun b_ => ?_ | refine n2_ fun b_ => ?_ | refine Nat1.mk fun q_ hq_ => ?_ | refine em_ fun x_ hx_ => ?_ | refine Elem1.mk fun e_ he_ => ?_); refine g0_ ?_))
          (refine g1_ ?_; repeat ((first | refine n1_ fun b_ => ?_ | refine n2_ fun b_ => ?_ | refine Nat1.mk fun q_ hq_ => ?_ | refine em_ fun x_ hx_ => ?_ | refine Elem1.mk fun e_ he_ => ?_); refine g1_ ?_))
          exact frz_tup2 (frz_row_eq hO (.here _ _ _) (by simp)) (.refl _)
      · obtain ⟨p, hp⟩ : ∃ p, P[i]? = some p := ⟨P[i]'(by omega), List.getElem?_eq_getElem _⟩
        have hpl := hln p (List.mem_of_getElem? hp)
        rw [drop_cons_of hp, partsQ] at hr
        unfold partQ at hr
        by_cases hodd : i % 2 = 1
        · rw [if_pos hodd] at hr
          have hmi : ((i : Nat) : Int).tmod 2 = 1 := by rw [show ((i : Nat) : Int).tmod 2 = ((i % 2 : Nat) : Int) from rfl, hodd]; rfl
          unfold addW at hr
          (refine g0_ ?_; repeat ((first | refine n1_ fun b_ => ?_ | refine n2_ fun b_ => ?_ | refine Nat1.mk fun q_ hq_ => ?_ | refine em_ fun x_ hx_ => ?_ | refine Elem1.mk fun e_ he_ => ?_); refine g0_ ?_))
          (refine gdj_ ?_; repeat ((first | refine n1_ fun b_ => ?_ | refine n2_ fun b_ => ?_ | refine Nat1.mk fun q_ hq_ => ?_ | refine em_ fun x_ hx_ => ?_ | refine Elem1.mk fun e_ he_ => ?_); refine gdj_ ?_))
          refine CondC.part ?_
          (refine gdj_ ?_; repeat ((first | refine n1_ fun b_ => ?_ | refine n2_ fun b_ => ?_ | refine Nat1.mk fun q_ hq_ => ?_ | refine em_ fun x_ hx_ => ?_ | refine Elem1.mk fun e_ he_ => ?_); refine gdj_ ?_))
          first | refine' joinT (α := Nat × (List PV)) (fun (b2, O2) => [(5, accV b2 1 O2), (6, .bool true)]) [(8, _), (20, _), (21, _), (22, _)] (fun (b2, O2) => accM b2 1 O2) (fun (b2, O2) => O2 = (openQ (o, q)).map .str) ?_ ?_ | refine' joinF (α := Nat × (List PV)) (fun (b2, O2) => [(5, accV b2 1 O2), (6, .bool true)]) [(8, _), (20, _), (21, _), (22, _)] (fun (b2, O2) => accM b2 1 O2) (fun (b2, O2) => O2 = (openQ (o, q)).map .str) ?_ ?_
          · cases q
            · have hO3 : O ++ [PV.str []] = (openQ (o, false)).map PV.str := by rw [hO]; simp [openQ]
              rcases O with _ | ⟨o0, O⟩
              · (refine g1_ ?_; repeat ((first | refine n1_ fun b_ => ?_ | refine n2_ fun b_ => ?_ | refine Nat1.mk fun q_ hq_ => ?_ | refine em_ fun x_ hx_ => ?_ | refine Elem1.mk fun e_ he_ => ?_); refine g1_ ?_))
                refine .inl ?_
                (refine g1_ ?_; repeat ((first | refine n1_ fun b_ => ?_ | refine n2_ fun b_ => ?_ | refine Nat1.mk fun q_ hq_ => ?_ | refine em_ fun x_ hx_ => ?_ | refine Elem1.mk fun e_ he_ => ?_); refine g1_ ?_))
                refine jx_ (b_, [] ++ [PV.str []]) ?_
                exact hO3
              · have hOa : O.all cellsB = true := by
                  have := strs_all1 o
                  rw [← hO] at this
                  simp only [List.all_cons, Bool.and_eq_true] at this
                  exact this.2
                have hOl : O.length ≤ 100000000 := by
                  have := congrArg List.length hO
                  rw [List.length_map] at this
                  have h2 := hbd.2
                  simp only [List.length_cons] at this
                  omega
                (refine g1_ ?_; repeat ((first | refine n1_ fun b_ => ?_ | refine n2_ fun b_ => ?_ | refine Nat1.mk fun q_ hq_ => ?_ | refine em_ fun x_ hx_ => ?_ | refine Elem1.mk fun e_ he_ => ?_); refine g1_ ?_))
                refine .inl ?_
                (refine g1_ ?_; repeat ((first | refine n1_ fun b_ => ?_ | refine n2_ fun b_ => ?_ | refine Nat1.mk fun q_ hq_ => ?_ | refine em_ fun x_ hx_ => ?_ | refine Elem1.mk fun e_ he_ => ?_); refine g1_ ?_))
                refine jx_ (b_, (o0 :: O) ++ [PV.str []]) ?_
                exact hO3
            · have hO3 : O = (openQ (o, true)).map PV.str := hO
              (refine g1_ ?_; repeat ((first | refine n1_ fun b_ => ?_ | refine n2_ fun b_ => ?_ | refine Nat1.mk fun q_ hq_ => ?_ | refine em_ fun x_ hx_ => ?_ | refine Elem1.mk fun e_ he_ => ?_); refine g1_ ?_))
              refine jx_ (b, O) ?_
              exact hO3
          rintro ⟨b2, O2⟩ rfl
          have hop := bound_open q hbd
          have hne := open_ne hon
          generalize openQ (o, q) = L at *
          obtain ⟨hbl, hlb⟩ := bound_last hne hop (p := p) (k := 4000) (by omega)
          rcases L with _ | ⟨l0, L1⟩
          · exact absurd rfl hne
          · (refine g0_ ?_; repeat ((first | refine n1_ fun b_ => ?_ | refine n2_ fun b_ => ?_ | refine Nat1.mk fun q_ hq_ => ?_ | refine em_ fun x_ hx_ => ?_ | refine Elem1.mk fun e_ he_ => ?_); refine g0_ ?_))
            rw [show ((((List.map PV.str L1).length + 1 : Nat) : Int) - 1) = ((L1.length : Nat) : Int) by rw [List.length_map]; omega]
            have hll : (List.map PV.str L1).length = L1.length := List.length_map _
            have hset := set_last (l0 :: L1) hne p L1.length rfl
            obtain ⟨d0, D1, hD⟩ : ∃ d0 D1, (l0 :: L1).dropLast ++ [(l0 :: L1).getLastD [] ++ p] = d0 :: D1 := List.exists_cons_of_ne_nil (by simp)
            have hDl : D1.length = L1.length := by
              have := congrArg List.length hD
              simp at this
              omega
            rw [hD] at hset hbl hr
            obtain ⟨hlast, hset⟩ := hset
            generalize (l0 :: L1).getLastD [] = z at *
            have hop2 := hop.2
            simp only [List.length_cons] at hop2
            have hset2 : (PV.str l0 :: List.map PV.str L1).set (0 + L1.length) (PV.str (z ++ p)) = PV.str d0 :: List.map PV.str D1 := by
              rw [Nat.zero_add]
              exact hset
            (refine g0_ ?_; repeat ((first | refine n1_ fun b_ => ?_ | refine n2_ fun b_ => ?_ | refine Nat1.mk fun q_ hq_ => ?_ | refine em_ fun x_ hx_ => ?_ | refine Elem1.mk fun e_ he_ => ?_); refine g0_ ?_))
            rw [Nat.zero_add, show (PV.str l0 :: List.map PV.str L1) = List.map PV.str (l0 :: L1) from rfl, List.getElem?_map, hlast] at he_
            obtain rfl := Option.some.inj he_
            (refine g0_ ?_; repeat ((first | refine n1_ fun b_ => ?_ | refine n2_ fun b_ => ?_ | refine Nat1.mk fun q_ hq_ => ?_ | refine em_ fun x_ hx_ => ?_ | refine Elem1.mk fun e_ he_ => ?_); refine g0_ ?_))
            rw [Nat.zero_add, show (PV.str l0 :: List.map PV.str L1) = List.map PV.str (l0 :: L1) from rfl, List.getElem?_map, hlast] at he_
            obtain rfl := Option.some.inj he_
            (refine g0_ ?_; repeat ((first | refine n1_ fun b_ => ?_ | refine n2_ fun b_ => ?_ | refine Nat1.mk fun q_ hq_ => ?_ | refine em_ fun x_ hx_ => ?_ | refine Elem1.mk fun e_ he_ => ?_); refine g0_ ?_))
            rw [hset2]
            refine nx_ (i + 1, d0 :: D1, List.map PV.str (d0 :: D1), b2, true) ?_ ?_
            · exact ⟨by omega, hr, rfl, (fun _ => by simp), bound_more hbl (by omega) (by omega)⟩
            · ((try dsimp only); (try simp only [List.length_drop, List.length_take, List.length_append, List.length_cons, List.length_nil, List.length_map] at *); omega)
        · rw [if_neg hodd] at hr
          have hmi : ((i : Nat) : Int).tmod 2 = 0 := by rw [show ((i : Nat) : Int).tmod 2 = ((i % 2 : Nat) : Int) from rfl, show i % 2 = 0 by omega]; rfl
          have hsq := split_ok W hM p 32 (by omega)
          have hcq := splt_cnt 32 p
          have hlq := splt_len 32 p
          generalize splt 32 p = Q at *
          have hQm : (Q.map PV.str).length = Q.length := List.length_map _
          generalize hG : rowQw 0 (o, q) Q = G at hr
          (refine g0_ ?_; repeat ((first | refine n1_ fun b_ => ?_ | refine n2_ fun b_ => ?_ | refine Nat1.mk fun q_ hq_ => ?_ | refine em_ fun x_ hx_ => ?_ | refine Elem1.mk fun e_ he_ => ?_); refine g0_ ?_))
          (refine g1_ ?_; repeat ((first | refine n1_ fun b_ => ?_ | refine n2_ fun b_ => ?_ | refine Nat1.mk fun q_ hq_ => ?_ | refine em_ fun x_ hx_ => ?_ | refine Elem1.mk fun e_ he_ => ?_); refine g1_ ?_))
          refine (hsq).use ?_; (refine g0_ ?_; repeat ((first | refine n1_ fun b_ => ?_ | refine n2_ fun b_ => ?_ | refine Nat1.mk fun q_ hq_ => ?_ | refine em_ fun x_ hx_ => ?_ | refine Elem1.mk fun e_ he_ => ?_); refine g0_ ?_))
          refine' loopI (α := Nat × (List (List UInt8)) × (List PV) × Nat × Bool) (fun (j, o', O', b', q') => [(47, .int .i64 j), (5, accV b' 1 O'), (6, .bool q')]) [(20, _), (21, _), (22, _), (45, _), (46, _)] (fun (j, o', O', b', q') => accM b' 1 O') (fun (j, o', O', b', q') => j ≤ Q.length ∧ rowQw j (o', q') (Q.drop j) = G ∧ O' = o'.map .str ∧ (q' = true → o' ≠ []) ∧ boundQ (20000000 * i + 4000 * j) (5000 * i + j) o') (fun (j, o', O', b', q') => Q.length - j) (0, o, O, b, q) ?_ ?_
          · exact ⟨Nat.zero_le _, hG, hO, hon, hbd⟩
          clear hG hO hon hbd
          rintro ⟨j, o, O, b, q'⟩ ⟨hj, hr', hO, hon', hbd⟩
          by_cases h3 : j = Q.length
          · subst h3
            rw [List.drop_length] at hr'
            have : G = (o, q') := hr'.symm
            subst this
            (refine g0_ ?_; repeat ((first | refine n1_ fun b_ => ?_ | refine n2_ fun b_ => ?_ | refine Nat1.mk fun q_ hq_ => ?_ | refine em_ fun x_ hx_ => ?_ | refine Elem1.mk fun e_ he_ => ?_); refine g0_ ?_))
            (refine g1_ ?_; repeat ((first | refine n1_ fun b_ => ?_ | refine n2_ fun b_ => ?_ | refine Nat1.mk fun q_ hq_ => ?_ | refine em_ fun x_ hx_ => ?_ | refine Elem1.mk fun e_ he_ => ?_); refine g1_ ?_))
            refine nx_ (i + 1, o, O, b, q') ?_ ?_
            · exact ⟨by omega, hr, hO, hon', bound_more hbd (by omega) (by omega)⟩
            · ((try dsimp only); (try simp only [List.length_drop, List.length_take, List.length_append, List.length_cons, List.length_nil, List.length_map] at *); omega)
          · obtain ⟨w, hw⟩ : ∃ w, Q[j]? = some w := ⟨Q[j]'(by omega), List.getElem?_eq_getElem _⟩
            have hwl := hlq w (List.mem_of_getElem? hw)
            rw [drop_cons_of hw, rowQw] at hr'
            unfold wordQ at hr'
            clear hr
            have hr := hr'
            clear hr'
            (refine g0_ ?_; repeat ((first | refine n1_ fun b_ => ?_ | refine n2_ fun b_ => ?_ | refine Nat1.mk fun q_ hq_ => ?_ | refine em_ fun x_ hx_ => ?_ | refine Elem1.mk fun e_ he_ => ?_); refine g0_ ?_))
            (refine gdj_ ?_; repeat ((first | refine n1_ fun b_ => ?_ | refine n2_ fun b_ => ?_ | refine Nat1.mk fun q_ hq_ => ?_ | refine em_ fun x_ hx_ => ?_ | refine Elem1.mk fun e_ he_ => ?_); refine gdj_ ?_))
            first | refine' joinT (α := Bool) (fun q2 => [(6, .bool q2)]) [(5, _), (10, _), (20, _), (21, _), (22, _), (45, _), (46, _), (47, _)] (fun q2 => accM b 1 O) (fun q2 => q2 = (if 0 < j then false else q')) ?_ ?_ | refine' joinF (α := Bool) (fun q2 => [(6, .bool q2)]) [(5, _), (10, _), (20, _), (21, _), (22, _), (45, _), (46, _), (47, _)] (fun q2 => accM b 1 O) (fun q2 => q2 = (if 0 < j then false else q')) ?_ ?_
            · by_cases hj0 : 0 < j
              · (refine g1_ ?_; repeat ((first | refine n1_ fun b_ => ?_ | refine n2_ fun b_ => ?_ | refine Nat1.mk fun q_ hq_ => ?_ | refine em_ fun x_ hx_ => ?_ | refine Elem1.mk fun e_ he_ => ?_); refine g1_ ?_))
                refine jx_ (false) ?_
                rw [if_pos hj0]
              · (refine g1_ ?_; repeat ((first | refine n1_ fun b_ => ?_ | refine n2_ fun b_ => ?_ | refine Nat1.mk fun q_ hq_ => ?_ | refine em_ fun x_ hx_ => ?_ | refine Elem1.mk fun e_ he_ => ?_); refine g1_ ?_))
                refine jx_ (q') ?_
                rw [if_neg hj0]
            rintro q hq
            dsimp only at hr
            rw [← hq] at hr
            have hon : q = true → o ≠ [] := by
              intro e
              rw [e] at hq
              split at hq
              · cases hq
              · exact hon' hq.symm
            clear hq hon'
            by_cases hw0 : w = []
            · subst hw0
              rw [if_pos rfl] at hr
              (refine g0_ ?_; repeat ((first | refine n1_ fun b_ => ?_ | refine n2_ fun b_ => ?_ | refine Nat1.mk fun q_ hq_ => ?_ | refine em_ fun x_ hx_ => ?_ | refine Elem1.mk fun e_ he_ => ?_); refine g0_ ?_))
              (refine g1_ ?_; repeat ((first | refine n1_ fun b_ => ?_ | refine n2_ fun b_ => ?_ | refine Nat1.mk fun q_ hq_ => ?_ | refine em_ fun x_ hx_ => ?_ | refine Elem1.mk fun e_ he_ => ?_); refine g1_ ?_))
              refine nx_ (j + 1, o, O, b, q) ?_ ?_
              · exact ⟨by omega, hr, hO, hon, bound_more hbd (by omega) (by omega)⟩
              · ((try dsimp only); (try simp only [List.length_drop, List.length_take, List.length_append, List.length_cons, List.length_nil, List.length_map] at *); omega)
            · rw [if_neg hw0] at hr
              unfold addW at hr
              (refine g0_ ?_; repeat ((first | refine n1_ fun b_ => ?_ | refine n2_ fun b_ => ?_ | refine Nat1.mk fun q_ hq_ => ?_ | refine em_ fun x_ hx_ => ?_ | refine Elem1.mk fun e_ he_ => ?_); refine g0_ ?_))
              (refine gdj_ ?_; repeat ((first | refine n1_ fun b_ => ?_ | refine n2_ fun b_ => ?_ | refine Nat1.mk fun q_ hq_ => ?_ | refine em_ fun x_ hx_ => ?_ | refine Elem1.mk fun e_ he_ => ?_); refine gdj_ ?_))
              first | refine' joinT (α := Nat × (List PV)) (fun (b2, O2) => [(5, accV b2 1 O2), (6, .bool true)]) [(10, _), (20, _), (21, _), (22, _), (45, _), (46, _), (47, _)] (fun (b2, O2) => accM b2 1 O2) (fun (b2, O2) => O2 = (openQ (o, q)).map .str) ?_ ?_ | refine' joinF (α := Nat × (List PV)) (fun (b2, O2) => [(5, accV b2 1 O2), (6, .bool true)]) [(10, _), (20, _), (21, _), (22, _), (45, _), (46, _), (47, _)] (fun (b2, O2) => accM b2 1 O2) (fun (b2, O2) => O2 = (openQ (o, q)).map .str) ?_ ?_
              · cases q
                · have hO3 : O ++ [PV.str []] = (openQ (o, false)).map PV.str := by rw [hO]; simp [openQ]
                  rcases O with _ | ⟨o0, O⟩
                  · (refine g1_ ?_; repeat ((first | refine n1_ fun b_ => ?_ | refine n2_ fun b_ => ?_ | refine Nat1.mk fun q_ hq_ => ?_ | refine em_ fun x_ hx_ => ?_ | refine Elem1.mk fun e_ he_ => ?_); refine g1_ ?_))
                    refine .inl ?_
                    (refine g1_ ?_; repeat ((first | refine n1_ fun b_ => ?_ | refine n2_ fun b_ => ?_ | refine Nat1.mk fun q_ hq_ => ?_ | refine em_ fun x_ hx_ => ?_ | refine Elem1.mk fun e_ he_ => ?_); refine g1_ ?_))
                    refine jx_ (b_, [] ++ [PV.str []]) ?_
                    exact hO3
                  · have hOa : O.all cellsB = true := by
                      have := strs_all1 o
                      rw [← hO] at this
                      simp only [List.all_cons, Bool.and_eq_true] at this
                      exact this.2
                    have hOl : O.length ≤ 100000000 := by
                      have := congrArg List.length hO
                      rw [List.length_map] at this
                      have h2 := hbd.2
                      simp only [List.length_cons] at this
                      omega
                    (refine g1_ ?_; repeat ((first | refine n1_ fun b_ => ?_ | refine n2_ fun b_ => ?_ | refine Nat1.mk fun q_ hq_ => ?_ | refine em_ fun x_ hx_ => ?_ | refine Elem1.mk fun e_ he_ => ?_); refine g1_ ?_))
                    refine .inl ?_
                    (refine g1_ ?_; repeat ((first | refine n1_ fun b_ => ?_ | refine n2_ fun b_ => ?_ | refine Nat1.mk fun q_ hq_ => ?_ | refine em_ fun x_ hx_ => ?_ | refine Elem1.mk fun e_ he_ => ?_); refine g1_ ?_))
                    refine jx_ (b_, (o0 :: O) ++ [PV.str []]) ?_
                    exact hO3
                · have hO3 : O = (openQ (o, true)).map PV.str := hO
                  (refine g1_ ?_; repeat ((first | refine n1_ fun b_ => ?_ | refine n2_ fun b_ => ?_ | refine Nat1.mk fun q_ hq_ => ?_ | refine em_ fun x_ hx_ => ?_ | refine Elem1.mk fun e_ he_ => ?_); refine g1_ ?_))
                  refine jx_ (b, O) ?_
                  exact hO3
              rintro ⟨b2, O2⟩ rfl
              have hop := bound_open q hbd
              have hne := open_ne hon
              generalize openQ (o, q) = L at *
              obtain ⟨hbl, hlb⟩ := bound_last hne hop (p := w) (k := 4000) (by omega)
              rcases L with _ | ⟨l0, L1⟩
              · exact absurd rfl hne
              · (refine g0_ ?_; repeat ((first | refine n1_ fun b_ => ?_ | refine n2_ fun b_ => ?_ | refine Nat1.mk fun q_ hq_ => ?_ | refine em_ fun x_ hx_ => ?_ | refine Elem1.mk fun e_ he_ => ?_); refine g0_ ?_))
                rw [show ((((List.map PV.str L1).length + 1 : Nat) : Int) - 1) = ((L1.length : Nat) : Int) by rw [List.length_map]; omega]
                have hll : (List.map PV.str L1).length = L1.length := List.length_map _
                have hset := set_last (l0 :: L1) hne w L1.length rfl
                obtain ⟨d0, D1, hD⟩ : ∃ d0 D1, (l0 :: L1).dropLast ++ [(l0 :: L1).getLastD [] ++ w] = d0 :: D1 := List.exists_cons_of_ne_nil (by simp)
                have hDl : D1.length = L1.length := by
                  have := congrArg List.length hD
                  simp at this
                  omega
                rw [hD] at hset hbl hr
                obtain ⟨hlast, hset⟩ := hset
                generalize (l0 :: L1).getLastD [] = z at *
                have hop2 := hop.2
                simp only [List.length_cons] at hop2
                have hset2 : (PV.str l0 :: List.map PV.str L1).set (0 + L1.length) (PV.str (z ++ w)) = PV.str d0 :: List.map PV.str D1 := by
                  rw [Nat.zero_add]
                  exact hset
                (refine g0_ ?_; repeat ((first | refine n1_ fun b_ => ?_ | refine n2_ fun b_ => ?_ | refine Nat1.mk fun q_ hq_ => ?_ | refine em_ fun x_ hx_ => ?_ | refine Elem1.mk fun e_ he_ => ?_); refine g0_ ?_))
                rw [Nat.zero_add, show (PV.str l0 :: List.map PV.str L1) = List.map PV.str (l0 :: L1) from rfl, List.getElem?_map, hlast] at he_
                obtain rfl := Option.some.inj he_
                (refine g0_ ?_; repeat ((first | refine n1_ fun b_ => ?_ | refine n2_ fun b_ => ?_ | refine Nat1.mk fun q_ hq_ => ?_ | refine em_ fun x_ hx_ => ?_ | refine Elem1.mk fun e_ he_ => ?_); refine g0_ ?_))
                rw [Nat.zero_add, show (PV.str l0 :: List.map PV.str L1) = List.map PV.str (l0 :: L1) from rfl, List.getElem?_map, hlast] at he_
                obtain rfl := Option.some.inj he_
                (refine g0_ ?_; repeat ((first | refine n1_ fun b_ => ?_ | refine n2_ fun b_ => ?_ | refine Nat1.mk fun q_ hq_ => ?_ | refine em_ fun x_ hx_ => ?_ | refine Elem1.mk fun e_ he_ => ?_); refine g0_ ?_))
                rw [hset2]
                refine nx_ (j + 1, d0 :: D1, List.map PV.str (d0 :: D1), b2, true) ?_ ?_
                · exact ⟨by omega, hr, rfl, (fun _ => by simp), bound_more hbl (by omega) (by omega)⟩
                · ((try dsimp only); (try simp only [List.length_drop, List.length_take, List.length_append, List.length_cons, List.length_nil, List.length_map] at *); omega)
end Go.Eng.YtbaokhehnilneaaGreatDoor
end
