/- Texts put together: Copy5, Copy6, CopyEq, Copy7. -/
import Derived.Test.YtdepccblnhkmkaaDoorMP1
import Derived.Test.YtdepccblnhkmkaaDoorMT1
import Derived.Test.YtdepccblnhkmkaaDoorME6
import Derived.Test.YtdepccblnhkmkaaDoorMS1
/- Lines that are copied from: a text that is sought. -/
section
namespace Go.Eng.YtdepccblnhkmkaaDoor
open Go Go.Eng Go.Proofs
variable (W : World)
set_option linter.unusedSimpArgs false
set_option maxRecDepth 100000
set_option linter.unusedVariables false
set_option maxHeartbeats 4000000
theorem runesFrom_eq (s : List UInt8) : ∀ (n i : Nat) (acc : Array Value), s.length - i ≤ n → (Conv.runesFrom ⟨s.toArray⟩ n i acc).toList = acc.toList ++ (runes (s.drop i)).map fun p => Value.int .i32 p.1
  | 0, i, acc, h => by
    rw [Conv.runesFrom, List.drop_of_length_le (by omega), runes_nil]; simp
  | n + 1, i, acc, h => by
    rw [Conv.runesFrom]
    by_cases hi : i < s.length
    · have hne : s.drop i ≠ [] := by simp; omega
      rw [if_pos (by simpa [ByteArray.size] using hi), decode_drop s i hi]
      have := dec_pos (s.drop i) hne
      dsimp only
      rw [runesFrom_eq s n _ _ (by omega), runes_cons hne, List.drop_drop]
      simp
    · rw [if_neg (by simpa [ByteArray.size] using hi), List.drop_of_length_le (by omega), runes_nil]; simp
theorem runesV_eq (s : List UInt8) : runesV s = ((runes s).map Prod.fst).map encRune := by
  rw [runesV, runesFrom_eq s s.length 0 #[] (by omega)]
  simp [encRune, ofV1]
theorem tmodN (i w : Nat) : (i : Int).tmod w = ((i % w : Nat) : Int) := (Int.ofNat_tmod i w).symm
/-- The runes that are sought. -/
def wantL (s : List UInt8) : List Nat := (runes (cleanL s)).map Prod.fst
theorem wantL_len (s : List UInt8) : (wantL s).length ≤ 4 * s.length := by
  have h1 := runes_le (cleanL s)
  have h2 := clean_len s
  rw [wantL, List.length_map]; omega
/-- Where these runes stand in a row of places, among those that are asked for: the column. -/
def findF (w : List Nat) (p : Nat → Bool) : List (Nat × Nat) → Option Nat
  | [] => none
  | q :: l => if p q.2 = true ∧ standsL (q :: l) w = true then some q.2 else findF w p l
def askB (L : Nat) (X : Int) (n x : Nat) : Bool := !(decide (n = 0 ∧ (x : Int) ≤ X) || decide (n = L ∧ X < x))
def stepS (ls : List (List UInt8)) (w : List Nat) (m : Mark) (n : Nat) : Option Mark :=
  (findF w (askB ls.length m.x n) (spotsL (ls.getD ((m.y.toNat + n) % ls.length) []))).map fun x : Nat => (⟨min (x : Int) 120, ((m.y.toNat + n) % ls.length : Nat)⟩ : Mark)
def seekM (ls : List (List UInt8)) (w : List Nat) (m : Mark) : Option Mark := (List.range' 0 (ls.length + 1)).findSome? (stepS ls w m)
def seekE (ls : List (List UInt8)) (c : Copying) (what : List UInt8) : Copying × Int :=
  if checkC ls c ≠ 0 then (noCopying, checkC ls c) else if wantL what = [] ∨ 4000 < what.length then (noCopying, 1)
  else match seekM ls (wantL what) c.at_ with
    | some m => (⟨m, c.from_, c.on⟩, 0)
    | none => (noCopying, 8)
theorem seek_ok (hT : Tabs W) (ls : List (List UInt8)) (c : Copying) (what : List UInt8) (hl : ls.length ≤ 17592186044416) (hb : ∀ s ∈ ls, s.length ≤ 140737488355328) (hw : what.length ≤ 1048576) :
    Pure Tryd.prog W 15 [encLines ls, encCopying c, .str what] (.tup [encCopying (seekE ls c what).1, .int .i64 (seekE ls c what).2]) := by
  by_cases h : checkC ls c = 0
  · obtain ⟨g1, g2, g3, g4⟩ := check_zero h
    have hck := checkCopy_ok W ls c hl hb
    have hcl := clean_len what
    have hwl := wantL_len what
    have hwm : ((wantL what).map encRune).length = (wantL what).length := List.length_map _
    have hlm : (ls.map PV.str).length = ls.length := List.length_map _
    by_cases hx : wantL what = [] ∨ 4000 < what.length
    · rw [seekE, if_neg (by simpa using h), if_pos hx]
      refine Pure.of (acalls_of_vc (drawOk W) Tryd.func15 rfl (by decide) (by decide) rfl ?_)
      (refine g0_ ?_; repeat ((first | refine n1_ fun b_ => ?_ | refine n2_ fun b_ => ?_ | refine Nat1.mk fun q_ hq_ => ?_ | refine em_ fun x_ hx_ => ?_ | refine Elem1.mk fun e_ he_ => ?_); refine g0_ ?_))
      refine (hck).use ?_; (refine g0_ ?_; repeat ((first | refine n1_ fun b_ => ?_ | refine n2_ fun b_ => ?_ | refine Nat1.mk fun q_ hq_ => ?_ | refine em_ fun x_ hx_ => ?_ | refine Elem1.mk fun e_ he_ => ?_); refine g0_ ?_))
      rw [h]
      (refine g0_ ?_; repeat ((first | refine n1_ fun b_ => ?_ | refine n2_ fun b_ => ?_ | refine Nat1.mk fun q_ hq_ => ?_ | refine em_ fun x_ hx_ => ?_ | refine Elem1.mk fun e_ he_ => ?_); refine g0_ ?_))
      (refine g1_ ?_; repeat ((first | refine n1_ fun b_ => ?_ | refine n2_ fun b_ => ?_ | refine Nat1.mk fun q_ hq_ => ?_ | refine em_ fun x_ hx_ => ?_ | refine Elem1.mk fun e_ he_ => ?_); refine g1_ ?_))
      refine (clean_ok W hT what (by omega)).use ?_; (refine g0_ ?_; repeat ((first | refine n1_ fun b_ => ?_ | refine n2_ fun b_ => ?_ | refine Nat1.mk fun q_ hq_ => ?_ | refine em_ fun x_ hx_ => ?_ | refine Elem1.mk fun e_ he_ => ?_); refine g0_ ?_))
      rw [show runesV (cleanL what) = (wantL what).map encRune from runesV_eq _]
      have h0 : wantL what = [] → (wantL what).length = 0 := fun h => by rw [h]; rfl
      refine brec ?_; intro c_ h1; (try rw [h1]); cases c_ <;> replace h1 := nm_ h1
      · rw [hwm] at h1
        exact absurd hx (by rintro (h2 | h2); have := h0 h2; omega; omega)
      · (refine g0_ ?_; repeat ((first | refine n1_ fun b_ => ?_ | refine n2_ fun b_ => ?_ | refine Nat1.mk fun q_ hq_ => ?_ | refine em_ fun x_ hx_ => ?_ | refine Elem1.mk fun e_ he_ => ?_); refine g0_ ?_))
        exact .refl _
    · rw [seekE, if_neg (by simpa using h), if_neg hx]
      have h0 : (wantL what).length ≠ 0 := fun h => hx (.inl (List.eq_nil_of_length_eq_zero h))
      have h4 : ¬ 4000 < what.length := fun h => hx (.inr h)
      clear hx
      obtain ⟨⟨ax, ay⟩, fr, on⟩ := c
      dsimp only at g3
      obtain ⟨Y, rfl⟩ := Int.eq_ofNat_of_zero_le g3.1
      refine Pure.of (acalls_of_vc (drawOk W) Tryd.func15 rfl (by decide) (by decide) rfl ?_)
      (refine g0_ ?_; repeat ((first | refine n1_ fun b_ => ?_ | refine n2_ fun b_ => ?_ | refine Nat1.mk fun q_ hq_ => ?_ | refine em_ fun x_ hx_ => ?_ | refine Elem1.mk fun e_ he_ => ?_); refine g0_ ?_))
      refine (hck).use ?_; (refine g0_ ?_; repeat ((first | refine n1_ fun b_ => ?_ | refine n2_ fun b_ => ?_ | refine Nat1.mk fun q_ hq_ => ?_ | refine em_ fun x_ hx_ => ?_ | refine Elem1.mk fun e_ he_ => ?_); refine g0_ ?_))
      rw [h]
      (refine g0_ ?_; repeat ((first | refine n1_ fun b_ => ?_ | refine n2_ fun b_ => ?_ | refine Nat1.mk fun q_ hq_ => ?_ | refine em_ fun x_ hx_ => ?_ | refine Elem1.mk fun e_ he_ => ?_); refine g0_ ?_))
      (refine g1_ ?_; repeat ((first | refine n1_ fun b_ => ?_ | refine n2_ fun b_ => ?_ | refine Nat1.mk fun q_ hq_ => ?_ | refine em_ fun x_ hx_ => ?_ | refine Elem1.mk fun e_ he_ => ?_); refine g1_ ?_))
      refine (clean_ok W hT what (by omega)).use ?_; (refine g0_ ?_; repeat ((first | refine n1_ fun b_ => ?_ | refine n2_ fun b_ => ?_ | refine Nat1.mk fun q_ hq_ => ?_ | refine em_ fun x_ hx_ => ?_ | refine Elem1.mk fun e_ he_ => ?_); refine g0_ ?_))
      rw [show runesV (cleanL what) = (wantL what).map encRune from runesV_eq _]
      refine brec ?_; intro c_ h1; (try rw [h1]); cases c_ <;> replace h1 := nm_ h1
      · clear h1
        (refine g0_ ?_; repeat ((first | refine n1_ fun b_ => ?_ | refine n2_ fun b_ => ?_ | refine Nat1.mk fun q_ hq_ => ?_ | refine em_ fun x_ hx_ => ?_ | refine Elem1.mk fun e_ he_ => ?_); refine g0_ ?_))
        rename_i b3
        obtain ⟨b4, rfl⟩ : ∃ b4, b4 = b_ := ⟨_, rfl⟩
        refine' loopI (α := Nat) (fun n => [(36, .int .i64 n)]) [(0, _), (4, _), (6, _), (9, _), (35, _)] (fun n => [⟨b4, .row 5 [.agg [.int .i64 0, .int .i64 0, .int .i64 0, .int .i64 0, .bool false]] 0⟩, ⟨b3, .row 5 [.agg [.int .i64 ax, .int .i64 Y, .int .i64 fr.x, .int .i64 fr.y, .bool on]] 0⟩]) (fun n => n ≤ ls.length + 1 ∧ (List.range' n (ls.length + 1 - n)).findSome? (stepS ls (wantL what) ⟨ax, Y⟩) = seekM ls (wantL what) ⟨ax, Y⟩) (fun n => ls.length + 1 - n) 0 ?_ ?_
        · exact ⟨Nat.zero_le _, rfl⟩
        rintro n ⟨hn, hf⟩
        (refine g0_ ?_; repeat ((first | refine n1_ fun b_ => ?_ | refine n2_ fun b_ => ?_ | refine Nat1.mk fun q_ hq_ => ?_ | refine em_ fun x_ hx_ => ?_ | refine Elem1.mk fun e_ he_ => ?_); refine g0_ ?_))
        refine brec ?_; intro c_ h2; (try rw [h2]); cases c_ <;> replace h2 := nm_ h2
        · rw [hlm] at h2
          obtain rfl : n = ls.length + 1 := by omega
          rw [Nat.sub_self] at hf
          rw [← hf]
          (refine g0_ ?_; repeat ((first | refine n1_ fun b_ => ?_ | refine n2_ fun b_ => ?_ | refine Nat1.mk fun q_ hq_ => ?_ | refine em_ fun x_ hx_ => ?_ | refine Elem1.mk fun e_ he_ => ?_); refine g0_ ?_))
          exact .refl _
        · rw [hlm] at h2
          rw [show ls.length + 1 - n = (ls.length - n) + 1 by omega, List.range'_succ, List.findSome?_cons] at hf
          have hmod : ((Y : Int) + n).tmod ls.length = (((Y + n) % ls.length : Nat) : Int) := by rw [← Int.natCast_add]; exact tmodN _ _
          have hlt : (Y + n) % ls.length < ls.length := Nat.mod_lt _ (by omega)
          obtain ⟨s, hs⟩ : ∃ s, ls[(Y + n) % ls.length]? = some s := ⟨_, List.getElem?_eq_getElem hlt⟩
          (refine g0_ ?_; repeat ((first | refine n1_ fun b_ => ?_ | refine n2_ fun b_ => ?_ | refine Nat1.mk fun q_ hq_ => ?_ | refine em_ fun x_ hx_ => ?_ | refine Elem1.mk fun e_ he_ => ?_); refine g0_ ?_))
          rw [hlm, hmod]
          (refine g0_ ?_; repeat ((first | refine n1_ fun b_ => ?_ | refine n2_ fun b_ => ?_ | refine Nat1.mk fun q_ hq_ => ?_ | refine em_ fun x_ hx_ => ?_ | refine Elem1.mk fun e_ he_ => ?_); refine g0_ ?_))
          rw [hlm, hs] at hx_
          cases hx_
          have hsb := g2 s (List.mem_of_getElem? hs)
          have hsl := spotsL_le s
          have hsd : ls.getD ((Y + n) % ls.length) [] = s := by rw [List.getD_eq_getElem?_getD, hs]; rfl
          have hlm2 : ((spotsL s).map encSpot).length = (spotsL s).length := List.length_map _
          refine (places_ok W hT s (by omega)).use ?_; (refine g0_ ?_; repeat ((first | refine n1_ fun b_ => ?_ | refine n2_ fun b_ => ?_ | refine Nat1.mk fun q_ hq_ => ?_ | refine em_ fun x_ hx_ => ?_ | refine Elem1.mk fun e_ he_ => ?_); refine g0_ ?_))
          have hst : stepS ls (wantL what) ⟨ax, Y⟩ n = (findF (wantL what) (askB ls.length ax n) (spotsL s)).map fun x : Nat => (⟨min (x : Int) 120, ((Y + n) % ls.length : Nat)⟩ : Mark) := by
            rw [stepS]; dsimp only; rw [Int.toNat_natCast, hsd]
          rw [hst] at hf
          refine' loopI (α := Nat) (fun k => [(54, .int .i64 k)]) [(0, _), (4, _), (6, _), (9, _), (10, _), (11, _), (12, _), (35, _), (36, _), (53, _)] (fun k => [⟨b4, .row 5 [.agg [.int .i64 0, .int .i64 0, .int .i64 0, .int .i64 0, .bool false]] 0⟩, ⟨b3, .row 5 [.agg [.int .i64 ax, .int .i64 Y, .int .i64 fr.x, .int .i64 fr.y, .bool on]] 0⟩]) (fun k => k ≤ (spotsL s).length ∧ findF (wantL what) (askB ls.length ax n) ((spotsL s).drop k) = findF (wantL what) (askB ls.length ax n) (spotsL s)) (fun k => (spotsL s).length - k) 0 ?_ ?_
          · exact ⟨Nat.zero_le _, rfl⟩
          rintro k ⟨hk, hfk⟩
          (refine g0_ ?_; repeat ((first | refine n1_ fun b_ => ?_ | refine n2_ fun b_ => ?_ | refine Nat1.mk fun q_ hq_ => ?_ | refine em_ fun x_ hx_ => ?_ | refine Elem1.mk fun e_ he_ => ?_); refine g0_ ?_))
          refine brec ?_; intro c_ h3; (try rw [h3]); cases c_ <;> replace h3 := nm_ h3
          · rw [hlm2] at h3
            obtain rfl : k = (spotsL s).length := by omega
            rw [List.drop_length, findF] at hfk
            rw [← hfk] at hf
            (refine g0_ ?_; repeat ((first | refine n1_ fun b_ => ?_ | refine n2_ fun b_ => ?_ | refine Nat1.mk fun q_ hq_ => ?_ | refine em_ fun x_ hx_ => ?_ | refine Elem1.mk fun e_ he_ => ?_); refine g0_ ?_))
            refine nx_ (n + 1) ?_ ?_
            · exact ⟨by omega, by rw [← hf]; congr 2; omega⟩
            · ((try dsimp only); (try simp only [List.length_drop, List.length_take, List.length_append, List.length_cons, List.length_nil, List.length_map] at *); omega)
          · rw [hlm2] at h3
            obtain ⟨q, hq⟩ : ∃ q, (spotsL s)[k]? = some q := ⟨(spotsL s)[k]'(by omega), List.getElem?_eq_getElem _⟩
            rw [drop_cons_of hq, findF, ← drop_cons_of hq] at hfk
            by_cases hp : askB ls.length ax n q.2 = true
            · have hp2 := hp
              simp only [askB, Bool.not_eq_true', Bool.or_eq_false_iff, decide_eq_false_iff_not] at hp
              obtain ⟨p1, p2⟩ := hp
              simp only [and_iff_right hp2] at hfk
              by_cases n0 : n = 0
              · subst n0
                have p3 : ¬ (q.2 : Int) ≤ ax := fun h => p1 ⟨rfl, h⟩
                (refine g1_ ?_; repeat ((first | refine n1_ fun b_ => ?_ | refine n2_ fun b_ => ?_ | refine Nat1.mk fun q_ hq_ => ?_ | refine em_ fun x_ hx_ => ?_ | refine Elem1.mk fun e_ he_ => ?_); refine g1_ ?_))
                refine head_ ?_
                (refine g1_ ?_; repeat ((first | refine n1_ fun b_ => ?_ | refine n2_ fun b_ => ?_ | refine Nat1.mk fun q_ hq_ => ?_ | refine em_ fun x_ hx_ => ?_ | refine Elem1.mk fun e_ he_ => ?_); refine g1_ ?_))
                rw [hlm2, List.take_length]
                refine (stands_ok W ((spotsL s).drop k) (wantL what) (by rw [List.length_drop]; omega) (by omega)).use ?_; (refine g0_ ?_; repeat ((first | refine n1_ fun b_ => ?_ | refine n2_ fun b_ => ?_ | refine Nat1.mk fun q_ hq_ => ?_ | refine em_ fun x_ hx_ => ?_ | refine Elem1.mk fun e_ he_ => ?_); refine g0_ ?_))
                by_cases hS : standsL ((spotsL s).drop k) (wantL what) = true
                · rw [if_pos hS] at hfk
                  rw [← hfk] at hf
                  rw [hS, ← hf]
                  (refine g1_ ?_; repeat ((first | refine n1_ fun b_ => ?_ | refine n2_ fun b_ => ?_ | refine Nat1.mk fun q_ hq_ => ?_ | refine em_ fun x_ hx_ => ?_ | refine Elem1.mk fun e_ he_ => ?_); refine g1_ ?_))
                  rw [show (if (120 : Int) < q.2 then (120 : Int) else q.2) = min (q.2 : Int) 120 by split <;> omega]
                  exact .refl _
                · rw [if_neg hS] at hfk
                  rw [Bool.not_eq_true] at hS
                  rw [hS]
                  (refine g1_ ?_; repeat ((first | refine n1_ fun b_ => ?_ | refine n2_ fun b_ => ?_ | refine Nat1.mk fun q_ hq_ => ?_ | refine em_ fun x_ hx_ => ?_ | refine Elem1.mk fun e_ he_ => ?_); refine g1_ ?_))
                  refine nx_ (k + 1) ?_ ?_
                  · exact ⟨by omega, hfk⟩
                  · ((try dsimp only); (try simp only [List.length_drop, List.length_take, List.length_append, List.length_cons, List.length_nil, List.length_map] at *); omega)
              · by_cases nL : n = ls.length
                · subst nL
                  have p3 : ¬ ax < (q.2 : Int) := fun h => p2 ⟨rfl, h⟩
                  (refine g1_ ?_; repeat ((first | refine n1_ fun b_ => ?_ | refine n2_ fun b_ => ?_ | refine Nat1.mk fun q_ hq_ => ?_ | refine em_ fun x_ hx_ => ?_ | refine Elem1.mk fun e_ he_ => ?_); refine g1_ ?_))
                  refine head_ ?_
                  (refine g1_ ?_; repeat ((first | refine n1_ fun b_ => ?_ | refine n2_ fun b_ => ?_ | refine Nat1.mk fun q_ hq_ => ?_ | refine em_ fun x_ hx_ => ?_ | refine Elem1.mk fun e_ he_ => ?_); refine g1_ ?_))
                  rw [hlm2, List.take_length]
                  refine (stands_ok W ((spotsL s).drop k) (wantL what) (by rw [List.length_drop]; omega) (by omega)).use ?_; (refine g0_ ?_; repeat ((first | refine n1_ fun b_ => ?_ | refine n2_ fun b_ => ?_ | refine Nat1.mk fun q_ hq_ => ?_ | refine em_ fun x_ hx_ => ?_ | refine Elem1.mk fun e_ he_ => ?_); refine g0_ ?_))
                  by_cases hS : standsL ((spotsL s).drop k) (wantL what) = true
                  · rw [if_pos hS] at hfk
                    rw [← hfk] at hf
                    rw [hS, ← hf]
                    (refine g1_ ?_; repeat ((first | refine n1_ fun b_ => ?_ | refine n2_ fun b_ => ?_ | refine Nat1.mk fun q_ hq_ => ?_ | refine em_ fun x_ hx_ => ?_ | refine Elem1.mk fun e_ he_ => ?_); refine g1_ ?_))
                    rw [show (if (120 : Int) < q.2 then (120 : Int) else q.2) = min (q.2 : Int) 120 by split <;> omega]
                    exact .refl _
                  · rw [if_neg hS] at hfk
                    rw [Bool.not_eq_true] at hS
                    rw [hS]
                    (refine g1_ ?_; repeat ((first | refine n1_ fun b_ => ?_ | refine n2_ fun b_ => ?_ | refine Nat1.mk fun q_ hq_ => ?_ | refine em_ fun x_ hx_ => ?_ | refine Elem1.mk fun e_ he_ => ?_); refine g1_ ?_))
                    refine nx_ (k + 1) ?_ ?_
                    · exact ⟨by omega, hfk⟩
                    · ((try dsimp only); (try simp only [List.length_drop, List.length_take, List.length_append, List.length_cons, List.length_nil, List.length_map] at *); omega)
                · (refine g1_ ?_; repeat ((first | refine n1_ fun b_ => ?_ | refine n2_ fun b_ => ?_ | refine Nat1.mk fun q_ hq_ => ?_ | refine em_ fun x_ hx_ => ?_ | refine Elem1.mk fun e_ he_ => ?_); refine g1_ ?_))
                  refine head_ ?_
                  (refine g1_ ?_; repeat ((first | refine n1_ fun b_ => ?_ | refine n2_ fun b_ => ?_ | refine Nat1.mk fun q_ hq_ => ?_ | refine em_ fun x_ hx_ => ?_ | refine Elem1.mk fun e_ he_ => ?_); refine g1_ ?_))
                  rw [hlm2, List.take_length]
                  refine (stands_ok W ((spotsL s).drop k) (wantL what) (by rw [List.length_drop]; omega) (by omega)).use ?_; (refine g0_ ?_; repeat ((first | refine n1_ fun b_ => ?_ | refine n2_ fun b_ => ?_ | refine Nat1.mk fun q_ hq_ => ?_ | refine em_ fun x_ hx_ => ?_ | refine Elem1.mk fun e_ he_ => ?_); refine g0_ ?_))
                  by_cases hS : standsL ((spotsL s).drop k) (wantL what) = true
                  · rw [if_pos hS] at hfk
                    rw [← hfk] at hf
                    rw [hS, ← hf]
                    (refine g1_ ?_; repeat ((first | refine n1_ fun b_ => ?_ | refine n2_ fun b_ => ?_ | refine Nat1.mk fun q_ hq_ => ?_ | refine em_ fun x_ hx_ => ?_ | refine Elem1.mk fun e_ he_ => ?_); refine g1_ ?_))
                    rw [show (if (120 : Int) < q.2 then (120 : Int) else q.2) = min (q.2 : Int) 120 by split <;> omega]
                    exact .refl _
                  · rw [if_neg hS] at hfk
                    rw [Bool.not_eq_true] at hS
                    rw [hS]
                    (refine g1_ ?_; repeat ((first | refine n1_ fun b_ => ?_ | refine n2_ fun b_ => ?_ | refine Nat1.mk fun q_ hq_ => ?_ | refine em_ fun x_ hx_ => ?_ | refine Elem1.mk fun e_ he_ => ?_); refine g1_ ?_))
                    refine nx_ (k + 1) ?_ ?_
                    · exact ⟨by omega, hfk⟩
                    · ((try dsimp only); (try simp only [List.length_drop, List.length_take, List.length_append, List.length_cons, List.length_nil, List.length_map] at *); omega)
            · rw [if_neg (fun h => hp h.1)] at hfk
              simp only [askB, Bool.not_eq_true, Bool.not_eq_false', Bool.or_eq_true, decide_eq_true_eq] at hp
              have hlm' := hlm
              rcases hp with ⟨rfl, hp⟩ | ⟨rfl, hp⟩
              · (refine g1_ ?_; repeat ((first | refine n1_ fun b_ => ?_ | refine n2_ fun b_ => ?_ | refine Nat1.mk fun q_ hq_ => ?_ | refine em_ fun x_ hx_ => ?_ | refine Elem1.mk fun e_ he_ => ?_); refine g1_ ?_))
                refine head_ ?_
                (refine g1_ ?_; repeat ((first | refine n1_ fun b_ => ?_ | refine n2_ fun b_ => ?_ | refine Nat1.mk fun q_ hq_ => ?_ | refine em_ fun x_ hx_ => ?_ | refine Elem1.mk fun e_ he_ => ?_); refine g1_ ?_))
                refine nx_ (k + 1) ?_ ?_
                · exact ⟨by omega, hfk⟩
                · ((try dsimp only); (try simp only [List.length_drop, List.length_take, List.length_append, List.length_cons, List.length_nil, List.length_map] at *); omega)
              · (refine g1_ ?_; repeat ((first | refine n1_ fun b_ => ?_ | refine n2_ fun b_ => ?_ | refine Nat1.mk fun q_ hq_ => ?_ | refine em_ fun x_ hx_ => ?_ | refine Elem1.mk fun e_ he_ => ?_); refine g1_ ?_))
                refine head_ ?_
                (refine g1_ ?_; repeat ((first | refine n1_ fun b_ => ?_ | refine n2_ fun b_ => ?_ | refine Nat1.mk fun q_ hq_ => ?_ | refine em_ fun x_ hx_ => ?_ | refine Elem1.mk fun e_ he_ => ?_); refine g1_ ?_))
                refine nx_ (k + 1) ?_ ?_
                · exact ⟨by omega, hfk⟩
                · ((try dsimp only); (try simp only [List.length_drop, List.length_take, List.length_append, List.length_cons, List.length_nil, List.length_map] at *); omega)
      · rw [hwm] at h1
        exact absurd h1 (by omega)
  · have hE : seekE ls c what = (noCopying, checkC ls c) := by rw [seekE, if_pos h]
    rw [hE]
    refine Pure.of (acalls_of_vc (drawOk W) Tryd.func15 rfl (by decide) (by decide) rfl ?_)
    (refine g0_ ?_; repeat ((first | refine n1_ fun b_ => ?_ | refine n2_ fun b_ => ?_ | refine Nat1.mk fun q_ hq_ => ?_ | refine em_ fun x_ hx_ => ?_ | refine Elem1.mk fun e_ he_ => ?_); refine g0_ ?_))
    refine (checkCopy_ok W ls c hl hb).use ?_; (refine g0_ ?_; repeat ((first | refine n1_ fun b_ => ?_ | refine n2_ fun b_ => ?_ | refine Nat1.mk fun q_ hq_ => ?_ | refine em_ fun x_ hx_ => ?_ | refine Elem1.mk fun e_ he_ => ?_); refine g0_ ?_))
    (refine g1_ ?_; repeat ((first | refine n1_ fun b_ => ?_ | refine n2_ fun b_ => ?_ | refine Nat1.mk fun q_ hq_ => ?_ | refine em_ fun x_ hx_ => ?_ | refine Elem1.mk fun e_ he_ => ?_); refine g1_ ?_))
    exact .refl _
end Go.Eng.YtdepccblnhkmkaaDoor
end

/- Lines that are copied from: what is marked. -/
section
namespace Go.Eng
open Go
/-- A call that is lent some blocks: what comes back stands last. -/
theorem ACalls.lendE {P : Program} {W : World} {α : Type} {V : α → PV} {M : α → Mem} {R : α → Prop} {f : FuncId} {args : List PV} {σ τ r : Mem} {k : PV → Mem → Prop} (h : ACalls P W f args τ (Gives V M R)) (hp : σ.Perm (r ++ τ)) (hk : ∀ x, R x → k (V x) (r ++ M x)) : ACalls P W f args σ k :=
  ACalls.weak (ACalls.lend h (hp.trans List.perm_append_comm) fun x hx => ⟨r ++ M x, hk x hx, [], by rw [List.append_nil]; exact List.perm_append_comm⟩)
end Go.Eng
namespace Go.Eng.YtdepccblnhkmkaaDoor
open Go Go.Eng Go.Proofs
variable (W : World)
set_option linter.unusedSimpArgs false
set_option maxRecDepth 100000
set_option linter.unusedVariables false
set_option maxHeartbeats 4000000
theorem allocMark {o : Oper} (h1 : o.guard = none) (h2 : o.op = .alloc 24) : Grows Tryd.prog W o (fun b => .bref b 0) (fun b => .row 2 [.agg [.int .i64 0, .int .i64 0]] 0) :=
  ⟨h1, fun env σ k hk => by
    rw [h2]
    simp only [opV]
    refine wh ?_
    exact ⟨fun b _ => hk b⟩⟩
/-- The last column that a row of places takes. -/
def lastEnd (l : List (Nat × Nat)) : Int := match l.getLast? with | some p => p.2 + widthL p.1 - 1 | none => -1
def fromF (l : List (Nat × Nat)) (isA : Bool) (ax : Int) : Int := if isA = true then (if 0 < l.length ∧ lastEnd l < ax then l.length else max (atL l ax) 0) else 0
def toF (l : List (Nat × Nat)) (isB : Bool) (bx : Int) : Int := if isB = true then atL l bx else l.length - 1
/-- The runes from the one number to the other, as bytes. -/
def takeB (f t : Int) : Nat → List (Nat × Nat) → List UInt8
  | _, [] => []
  | k, p :: l => (if f ≤ k ∧ (k : Int) ≤ t then Lib.encodeRune p.1 else []) ++ takeB f t (k + 1) l
def lineT (a b : Mark) (s : List UInt8) (y : Nat) : List UInt8 := takeB (fromF (spotsL s) (decide ((y : Int) = a.y)) a.x) (toF (spotsL s) (decide ((y : Int) = b.y)) b.x) 0 (spotsL s)
def rowsT (ls : List (List UInt8)) (a b : Mark) (y n : Nat) : List (List UInt8) := (List.range' y n).map fun y => lineT a b (ls.getD y []) y
def orderM (a b : Mark) : Mark × Mark := if b.y < a.y ∨ (b.y = a.y ∧ b.x < a.x) then (b, a) else (a, b)
def textT (ls : List (List UInt8)) (a b : Mark) : List UInt8 := Lib.join (rowsT ls a b a.y.toNat (b.y.toNat + 1 - a.y.toNat)) [10]
def takeE (ls : List (List UInt8)) (c : Copying) : List UInt8 × Int :=
  if checkC ls c ≠ 0 then ([], checkC ls c) else if c.on = false then ([], 8)
  else if 4000 < (textT ls (orderM c.from_ c.at_).1 (orderM c.from_ c.at_).2).length then ([], 10) else (textT ls (orderM c.from_ c.at_).1 (orderM c.from_ c.at_).2, 0)
theorem order_ok {fx fy cx cy ax ay bx bz : Int} {L : Nat} (h : orderM ⟨fx, fy⟩ ⟨cx, cy⟩ = (⟨ax, ay⟩, ⟨bx, bz⟩)) (g3 : 0 ≤ cy ∧ cy < L ∧ 0 ≤ cx ∧ cx ≤ 120) (g4 : 0 ≤ fy ∧ fy < L ∧ 0 ≤ fx ∧ fx ≤ 120) :
    (0 ≤ ay ∧ ay ≤ bz ∧ bz < L) ∧ (0 ≤ ax ∧ ax ≤ 120) ∧ (0 ≤ bx ∧ bx ≤ 120) := by
  unfold orderM at h
  dsimp only at h
  split at h <;> cases h <;> omega
theorem spotsRs_pos : ∀ (l : List (Nat × Nat)) (x : Nat), ∀ p ∈ spotsRs x l, 0 < widthL p.1
  | [], _, p, hp => by simp [spotsRs] at hp
  | q :: l, x, p, hp => by
    rw [spotsRs] at hp
    split at hp
    · rename_i h
      rcases List.mem_cons.1 hp with rfl | hp
      · dsimp only; omega
      · exact spotsRs_pos l _ p hp
    · exact spotsRs_pos l _ p hp
theorem spots_range (s : List UInt8) : ∀ p ∈ spotsL s, (p.1 : Int) ≤ 1114111 := fun p hp => by
  have := valid_of_width (spotsRs_pos _ _ p hp)
  unfold validR at this
  omega
theorem takeB_len (f g : Int) : ∀ (k : Nat) (l : List (Nat × Nat)), (takeB f g k l).length ≤ 4 * l.length
  | _, [] => Nat.le_refl _
  | k, p :: l => by
    have h1 := takeB_len f g (k + 1) l
    have h2 := enc_le p.1
    rw [takeB, List.length_append, List.length_cons]
    split
    · omega
    · rw [List.length_nil]; omega
theorem lineT_len (a b : Mark) (s : List UInt8) (y : Nat) : (lineT a b s y).length ≤ 4 * s.length := by
  have h1 := takeB_len (fromF (spotsL s) (decide ((y : Int) = a.y)) a.x) (toF (spotsL s) (decide ((y : Int) = b.y)) b.x) 0 (spotsL s)
  have h2 := spotsL_le s
  unfold lineT; omega
theorem rowsT_succ (ls : List (List UInt8)) (a b : Mark) (y n : Nat) : rowsT ls a b y (n + 1) = lineT a b (ls.getD y []) y :: rowsT ls a b (y + 1) n := by
  rw [rowsT, List.range'_succ, List.map_cons]; rfl
theorem rowsT_len (ls : List (List UInt8)) (a b : Mark) (y n : Nat) : (rowsT ls a b y n).length = n := by simp [rowsT]
theorem rowsT_le {ls : List (List UInt8)} (h : ∀ s ∈ ls, s.length ≤ 4000) (a b : Mark) (y n : Nat) : ∀ r ∈ rowsT ls a b y n, r.length ≤ 16000 := by
  intro r hr
  obtain ⟨i, _, rfl⟩ := List.mem_map.1 hr
  have h1 := lineT_len a b (ls.getD i []) i
  have h2 : (ls.getD i []).length ≤ 4000 := by
    rw [List.getD_eq_getElem?_getD]
    cases he : ls[i]? with
    | none => simp
    | some s => simpa using h s (List.mem_of_getElem? he)
  omega
theorem lens_le (N : Nat) : ∀ (xs : List (List UInt8)), (∀ x ∈ xs, x.length ≤ N) → Lib.lens xs ≤ N * xs.length
  | [], _ => by simp [Lib.lens]
  | x :: xs, h => by
    have h1 := lens_le N xs (fun y hy => h y (List.mem_cons_of_mem _ hy))
    have h2 := h x List.mem_cons_self
    have e : Lib.lens (x :: xs) = x.length + Lib.lens xs := by simp [Lib.lens]
    rw [e, List.length_cons, Nat.mul_succ]; omega
theorem join_len (N : Nat) (xs : List (List UInt8)) (h : ∀ x ∈ xs, x.length ≤ N) : (Lib.join xs [10]).length ≤ N * xs.length + xs.length := by
  have h1 := lens_le N xs h
  cases xs with
  | nil => simp [Lib.join_nil]
  | cons x r =>
    rw [Lib.join_length]
    simp only [List.length_cons, List.length_nil] at h1 ⊢
    omega
theorem spotsRs_x : ∀ (l : List (Nat × Nat)) (x : Nat), ∀ p ∈ spotsRs x l, p.2 ≤ x + 2 * l.length
  | [], _, p, hp => by simp [spotsRs] at hp
  | q :: l, x, p, hp => by
    have hw := widthL_le q.1
    rw [spotsRs] at hp
    rw [List.length_cons]
    split at hp
    · rcases List.mem_cons.1 hp with rfl | hp
      · dsimp only; omega
      · have := spotsRs_x l _ p hp
        omega
    · have := spotsRs_x l _ p hp
      omega
theorem spots_x (s : List UInt8) : ∀ p ∈ spotsL s, p.2 ≤ 2 * s.length := fun p hp => by
  have := spotsRs_x _ _ p hp
  have := runes_le s
  omega
theorem take_ok (hT : Tabs W) (ls : List (List UInt8)) (c : Copying) (hl : ls.length ≤ 17592186044416) (hb : ∀ s ∈ ls, s.length ≤ 140737488355328) :
    Pure Tryd.prog W 9 [encLines ls, encCopying c] (.tup [.str (takeE ls c).1, .int .i64 (takeE ls c).2]) := by
  have hck := checkCopy_ok W ls c hl hb
  by_cases h : checkC ls c = 0
  · obtain ⟨g1, g2, g3, g4⟩ := check_zero h
    have hlm : (ls.map PV.str).length = ls.length := List.length_map _
    rw [h] at hck
    rw [takeE, if_neg (by simpa using h)]
    by_cases hon : c.on = false
    · rw [if_pos hon]
      refine Pure.of (acalls_of_vc (DH_ok (by decide)) Tryd.func9 rfl (by decide) (by decide) rfl ?_)
      (refine g0_ ?_; repeat ((first | refine n1_ fun b_ => ?_ | refine n2_ fun b_ => ?_ | refine Nat1.mk fun q_ hq_ => ?_ | refine em_ fun x_ hx_ => ?_ | refine Elem1.mk fun e_ he_ => ?_); refine g0_ ?_))
      refine (hck).use ?_; (refine g0_ ?_; repeat ((first | refine n1_ fun b_ => ?_ | refine n2_ fun b_ => ?_ | refine Nat1.mk fun q_ hq_ => ?_ | refine em_ fun x_ hx_ => ?_ | refine Elem1.mk fun e_ he_ => ?_); refine g0_ ?_))
      (refine g1_ ?_; repeat ((first | refine n1_ fun b_ => ?_ | refine n2_ fun b_ => ?_ | refine Nat1.mk fun q_ hq_ => ?_ | refine em_ fun x_ hx_ => ?_ | refine Elem1.mk fun e_ he_ => ?_); refine g1_ ?_))
      exact .refl _
    · rw [if_neg hon]
      rw [Bool.not_eq_false] at hon
      obtain ⟨⟨cx, cy⟩, ⟨fx, fy⟩, on⟩ := c
      dsimp only at g3 g4 hon ⊢
      obtain ⟨⟨ax, ay⟩, ⟨bx, bz⟩, hE⟩ : ∃ A B, orderM ⟨fx, fy⟩ ⟨cx, cy⟩ = (A, B) := ⟨_, _, rfl⟩
      obtain ⟨o1, o2, o3⟩ := order_ok hE g3 g4
      rw [hE]
      dsimp only
      obtain ⟨AY, rfl⟩ := Int.eq_ofNat_of_zero_le o1.1
      obtain ⟨BY, rfl⟩ := Int.eq_ofNat_of_zero_le (show 0 ≤ bz by omega)
      refine Pure.of (acalls_of_vc (DH_ok (by decide)) Tryd.func9 rfl (by decide) (by decide) rfl ?_)
      (refine g0_ ?_; repeat ((first | refine n1_ fun b_ => ?_ | refine n2_ fun b_ => ?_ | refine Nat1.mk fun q_ hq_ => ?_ | refine em_ fun x_ hx_ => ?_ | refine Elem1.mk fun e_ he_ => ?_); refine g0_ ?_))
      refine (hck).use ?_; (refine g0_ ?_; repeat ((first | refine n1_ fun b_ => ?_ | refine n2_ fun b_ => ?_ | refine Nat1.mk fun q_ hq_ => ?_ | refine em_ fun x_ hx_ => ?_ | refine Elem1.mk fun e_ he_ => ?_); refine g0_ ?_))
      (refine g1_ ?_; repeat ((first | refine n1_ fun b_ => ?_ | refine n2_ fun b_ => ?_ | refine Nat1.mk fun q_ hq_ => ?_ | refine em_ fun x_ hx_ => ?_ | refine Elem1.mk fun e_ he_ => ?_); refine g1_ ?_))
      refine Draws6.three ⟨4, _, _, _, _, _, _, _, by decide +kernel, rfl, rfl, rfl, allocMark W rfl rfl, allocMark W rfl rfl, ?_⟩
      (refine g0_ ?_; repeat ((first | refine n1_ fun b_ => ?_ | refine n2_ fun b_ => ?_ | refine Nat1.mk fun q_ hq_ => ?_ | refine em_ fun x_ hx_ => ?_ | refine Elem1.mk fun e_ he_ => ?_); refine g0_ ?_))
      intro b7 b8
      (refine gj_ ?_; repeat ((first | refine n1_ fun b_ => ?_ | refine n2_ fun b_ => ?_ | refine Nat1.mk fun q_ hq_ => ?_ | refine em_ fun x_ hx_ => ?_ | refine Elem1.mk fun e_ he_ => ?_); refine gj_ ?_))
      first | refine' joinT (α := Unit) (fun u => []) [(0, _), (7, _), (8, _)] (fun u => [⟨b8, .row 2 [.agg [.int .i64 bx, .int .i64 BY]] 0⟩, ⟨b7, .row 2 [.agg [.int .i64 ax, .int .i64 AY]] 0⟩]) (fun u => True) ?_ ?_ | refine' joinF (α := Unit) (fun u => []) [(0, _), (7, _), (8, _)] (fun u => [⟨b8, .row 2 [.agg [.int .i64 bx, .int .i64 BY]] 0⟩, ⟨b7, .row 2 [.agg [.int .i64 ax, .int .i64 AY]] 0⟩]) (fun u => True) ?_ ?_
      · by_cases ho : cy < fy ∨ (cy = fy ∧ cx < fx)
        · unfold orderM at hE
          dsimp only at hE
          rw [if_pos ho] at hE
          cases hE
          (refine g1_ ?_; repeat ((first | refine n1_ fun b_ => ?_ | refine n2_ fun b_ => ?_ | refine Nat1.mk fun q_ hq_ => ?_ | refine em_ fun x_ hx_ => ?_ | refine Elem1.mk fun e_ he_ => ?_); refine g1_ ?_))
          refine jx_ () ?_
          trivial
        · unfold orderM at hE
          dsimp only at hE
          rw [if_neg ho] at hE
          cases hE
          (refine g1_ ?_; repeat ((first | refine n1_ fun b_ => ?_ | refine n2_ fun b_ => ?_ | refine Nat1.mk fun q_ hq_ => ?_ | refine em_ fun x_ hx_ => ?_ | refine Elem1.mk fun e_ he_ => ?_); refine g1_ ?_))
          refine jx_ () ?_
          trivial
      rintro - -
      (refine g0_ ?_; repeat ((first | refine n1_ fun b_ => ?_ | refine n2_ fun b_ => ?_ | refine Nat1.mk fun q_ hq_ => ?_ | refine em_ fun x_ hx_ => ?_ | refine Elem1.mk fun e_ he_ => ?_); refine g0_ ?_))
      refine' loopI (α := Nat × Nat × (List PV)) (fun (y, bo, rows) => [(10, .int .i64 y), (9, accV bo 1 rows)]) [(0, _), (7, _), (8, _)] (fun (y, bo, rows) => accM bo 1 rows ++ [⟨b8, .row 2 [.agg [.int .i64 bx, .int .i64 BY]] 0⟩, ⟨b7, .row 2 [.agg [.int .i64 ax, .int .i64 AY]] 0⟩]) (fun (y, bo, rows) => (AY ≤ y ∧ y ≤ BY + 1 ∧ rows.length ≤ y) ∧ rows ++ (rowsT ls ⟨ax, AY⟩ ⟨bx, BY⟩ y (BY + 1 - y)).map PV.str = (rowsT ls ⟨ax, AY⟩ ⟨bx, BY⟩ AY (BY + 1 - AY)).map PV.str) (fun (y, bo, rows) => BY + 1 - y) (AY, 0, []) ?_ ?_
      · exact ⟨⟨by omega, by omega, by simp⟩, rfl⟩
      rintro ⟨y, bo, rows⟩ ⟨hy, hr⟩
      rcases rows with _ | ⟨r0, rows⟩
      · (refine g0_ ?_; repeat ((first | refine n1_ fun b_ => ?_ | refine n2_ fun b_ => ?_ | refine Nat1.mk fun q_ hq_ => ?_ | refine em_ fun x_ hx_ => ?_ | refine Elem1.mk fun e_ he_ => ?_); refine g0_ ?_))
        refine brec ?_; intro c_ h2; (try rw [h2]); cases c_ <;> replace h2 := nm_ h2
        · obtain rfl : y = BY + 1 := by omega
          rw [Nat.sub_self] at hr
          have hjl := join_len 16000 _ (rowsT_le g2 ⟨ax, AY⟩ ⟨bx, BY⟩ AY (BY + 1 - AY))
          rw [rowsT_len] at hjl
          (refine g0_ ?_; repeat ((first | refine n1_ fun b_ => ?_ | refine n2_ fun b_ => ?_ | refine Nat1.mk fun q_ hq_ => ?_ | refine em_ fun x_ hx_ => ?_ | refine Elem1.mk fun e_ he_ => ?_); refine g0_ ?_))
          refine (join_ok W (rowsT ls ⟨ax, AY⟩ ⟨bx, BY⟩ AY (BY + 1 - AY)) [10] (by rw [rowsT_len]; omega) (by omega)).borrow rfl rfl (fun j hj => ?_) ?_
          · match j, hj with
            | 0, _ =>
              show Frz _ _ (.sl 1 ((rowsT ls ⟨ax, AY⟩ ⟨bx, BY⟩ AY (BY + 1 - AY)).map PV.str))
              rw [← hr, show rowsT ls ⟨ax, AY⟩ ⟨bx, BY⟩ (BY + 1) 0 = [] from rfl, List.map_nil, List.append_nil]
              exact .nils _
            | 1, _ => exact .refl _
          have hT0 : Lib.join (rowsT ls ⟨ax, AY⟩ ⟨bx, BY⟩ AY (BY + 1 - AY)) [10] = textT ls ⟨ax, AY⟩ ⟨bx, BY⟩ := rfl
          rw [hT0]
          by_cases hlong : 4000 < (textT ls ⟨ax, AY⟩ ⟨bx, BY⟩).length
          · rw [if_pos hlong]
            (refine g1_ ?_; repeat ((first | refine n1_ fun b_ => ?_ | refine n2_ fun b_ => ?_ | refine Nat1.mk fun q_ hq_ => ?_ | refine em_ fun x_ hx_ => ?_ | refine Elem1.mk fun e_ he_ => ?_); refine g1_ ?_))
            exact .refl _
          · rw [if_neg hlong]
            (refine g1_ ?_; repeat ((first | refine n1_ fun b_ => ?_ | refine n2_ fun b_ => ?_ | refine Nat1.mk fun q_ hq_ => ?_ | refine em_ fun x_ hx_ => ?_ | refine Elem1.mk fun e_ he_ => ?_); refine g1_ ?_))
            exact .refl _
        · obtain ⟨s, hs⟩ : ∃ s, ls[y]? = some s := ⟨ls[y]'(by omega), List.getElem?_eq_getElem _⟩
          have hsb := g2 s (List.mem_of_getElem? hs)
          have hsl := spotsL_le s
          have hlm2 : ((spotsL s).map encSpot).length = (spotsL s).length := List.length_map _
          (refine g0_ ?_; repeat ((first | refine n1_ fun b_ => ?_ | refine n2_ fun b_ => ?_ | refine Nat1.mk fun q_ hq_ => ?_ | refine em_ fun x_ hx_ => ?_ | refine Elem1.mk fun e_ he_ => ?_); refine g0_ ?_))
          obtain ⟨bw, rfl⟩ : ∃ bw, bw = b_ := ⟨_, rfl⟩
          refine (places_ok W hT s (by omega)).use ?_; (refine g0_ ?_; repeat ((first | refine n1_ fun b_ => ?_ | refine n2_ fun b_ => ?_ | refine Nat1.mk fun q_ hq_ => ?_ | refine em_ fun x_ hx_ => ?_ | refine Elem1.mk fun e_ he_ => ?_); refine g0_ ?_))
          refine' loopI (α := Nat × Nat × (List UInt8)) (fun (k, cb, t) => [(67, .int .i64 k)]) [(0, _), (7, _), (8, _), (9, _), (10, _), (11, _), (12, _), (65, _), (66, _)] (fun (k, cb, t) => [] ++ [⟨b8, .row 2 [.agg [.int .i64 bx, .int .i64 BY]] 0⟩, ⟨b7, .row 2 [.agg [.int .i64 ax, .int .i64 AY]] 0⟩] ++ bldS bw cb t) (fun (k, cb, t) => k ≤ (spotsL s).length ∧ t ++ takeB (fromF (spotsL s) (decide ((y : Int) = AY)) ax) (toF (spotsL s) (decide ((y : Int) = BY)) bx) k ((spotsL s).drop k) = lineT ⟨ax, AY⟩ ⟨bx, BY⟩ s y ∧ t.length ≤ 4 * k) (fun (k, cb, t) => (spotsL s).length - k) (0, 0, []) ?_ ?_
          · exact ⟨Nat.zero_le _, rfl, by simp⟩
          rintro ⟨k, cb, t⟩ ⟨hk, ht, htl⟩
          (refine g0_ ?_; repeat ((first | refine n1_ fun b_ => ?_ | refine n2_ fun b_ => ?_ | refine Nat1.mk fun q_ hq_ => ?_ | refine em_ fun x_ hx_ => ?_ | refine Elem1.mk fun e_ he_ => ?_); refine g0_ ?_))
          refine brec ?_; intro c_ h3; (try rw [h3]); cases c_ <;> replace h3 := nm_ h3
          · rw [hlm2] at h3
            obtain rfl : k = (spotsL s).length := by omega
            rw [List.drop_length, takeB, List.append_nil] at ht
            have hsd : ls.getD y [] = s := by rw [List.getD_eq_getElem?_getD, hs]; rfl
            rw [show BY + 1 - y = (BY - y) + 1 by omega, rowsT_succ, hsd] at hr
            (refine g0_ ?_; repeat ((first | refine n1_ fun b_ => ?_ | refine n2_ fun b_ => ?_ | refine Nat1.mk fun q_ hq_ => ?_ | refine em_ fun x_ hx_ => ?_ | refine Elem1.mk fun e_ he_ => ?_); refine g0_ ?_))
            refine ACalls.lendE (r := [] ++ [⟨b8, .row 2 [.agg [.int .i64 bx, .int .i64 BY]] 0⟩, ⟨b7, .row 2 [.agg [.int .i64 ax, .int .i64 AY]] 0⟩]) (string_ok W bw cb t (by omega)) (.refl _) ?_
            rintro _ -
            rw [ht]
            (refine g0_ ?_; repeat ((first | refine n1_ fun b_ => ?_ | refine n2_ fun b_ => ?_ | refine Nat1.mk fun q_ hq_ => ?_ | refine em_ fun x_ hx_ => ?_ | refine Elem1.mk fun e_ he_ => ?_); refine g0_ ?_))
            refine .inl ?_
            (refine g0_ ?_; repeat ((first | refine n1_ fun b_ => ?_ | refine n2_ fun b_ => ?_ | refine Nat1.mk fun q_ hq_ => ?_ | refine em_ fun x_ hx_ => ?_ | refine Elem1.mk fun e_ he_ => ?_); refine g0_ ?_))
            refine nx_ (y + 1, b_, [] ++ [.str (lineT ⟨ax, AY⟩ ⟨bx, BY⟩ s y)]) ?_ ?_
            · exact ⟨⟨by omega, by omega, by simp only [List.length_append, List.length_cons, List.length_nil] at hy ⊢; omega⟩, by rw [← hr, show BY + 1 - (y + 1) = BY - y by omega]; simp⟩
            · ((try dsimp only); (try simp only [List.length_drop, List.length_take, List.length_append, List.length_cons, List.length_nil, List.length_map] at *); omega)
          · rw [hlm2] at h3
            obtain ⟨p, hp⟩ : ∃ p, (spotsL s)[k]? = some p := ⟨(spotsL s)[k]'(by omega), List.getElem?_eq_getElem _⟩
            have hpr := spots_range s p (List.mem_of_getElem? hp)
            rw [drop_cons_of hp, takeB] at ht
            (refine gj_ ?_; repeat ((first | refine n1_ fun b_ => ?_ | refine n2_ fun b_ => ?_ | refine Nat1.mk fun q_ hq_ => ?_ | refine em_ fun x_ hx_ => ?_ | refine Elem1.mk fun e_ he_ => ?_); refine gj_ ?_))
            obtain ⟨b14, rfl⟩ : ∃ b14, b14 = b_ := ⟨_, rfl⟩
            first | refine' joinT (α := Unit) (fun u => [(15, .int .i64 (fromF (spotsL s) (decide ((y : Int) = AY)) ax))]) [(0, _), (7, _), (8, _), (9, _), (10, _), (11, _), (12, _), (13, _), (14, _), (16, _), (65, _), (66, _), (67, _)] (fun u => [⟨b14, .row 2 [encSpot p] 0⟩] ++ ([] ++ [⟨b8, .row 2 [.agg [.int .i64 bx, .int .i64 BY]] 0⟩, ⟨b7, .row 2 [.agg [.int .i64 ax, .int .i64 AY]] 0⟩] ++ bldS bw cb t)) (fun u => True) ?_ ?_ | refine' joinF (α := Unit) (fun u => [(15, .int .i64 (fromF (spotsL s) (decide ((y : Int) = AY)) ax))]) [(0, _), (7, _), (8, _), (9, _), (10, _), (11, _), (12, _), (13, _), (14, _), (16, _), (65, _), (66, _), (67, _)] (fun u => [⟨b14, .row 2 [encSpot p] 0⟩] ++ ([] ++ [⟨b8, .row 2 [.agg [.int .i64 bx, .int .i64 BY]] 0⟩, ⟨b7, .row 2 [.agg [.int .i64 ax, .int .i64 AY]] 0⟩] ++ bldS bw cb t)) (fun u => True) ?_ ?_
            · by_cases hyA : (y : Int) = AY
              · rw [fromF, if_pos (decide_eq_true hyA)]
                (refine g1_ ?_; repeat ((first | refine n1_ fun b_ => ?_ | refine n2_ fun b_ => ?_ | refine Nat1.mk fun q_ hq_ => ?_ | refine em_ fun x_ hx_ => ?_ | refine Elem1.mk fun e_ he_ => ?_); refine g1_ ?_))
                refine (at_ok W (spotsL s) ax (by omega)).use ?_; (refine g0_ ?_; repeat ((first | refine n1_ fun b_ => ?_ | refine n2_ fun b_ => ?_ | refine Nat1.mk fun q_ hq_ => ?_ | refine em_ fun x_ hx_ => ?_ | refine Elem1.mk fun e_ he_ => ?_); refine g0_ ?_))
                refine Draws6.old (head_ ?_)
                (refine g1_ ?_; repeat ((first | refine n1_ fun b_ => ?_ | refine n2_ fun b_ => ?_ | refine Nat1.mk fun q_ hq_ => ?_ | refine em_ fun x_ hx_ => ?_ | refine Elem1.mk fun e_ he_ => ?_); refine g1_ ?_))
                rename_i q1 hq1 x1 hx1
                obtain ⟨pl, hpl⟩ : ∃ pl, (spotsL s)[(spotsL s).length - 1]? = some pl := ⟨_, List.getElem?_eq_getElem (by omega)⟩
                have hle : lastEnd (spotsL s) = pl.2 + widthL pl.1 - 1 := by rw [lastEnd, List.getLast?_eq_getElem?, hpl]
                have hplx := spots_x s pl (List.mem_of_getElem? hpl)
                have hplw := widthL_le pl.1
                rw [hlm2] at hq1 hq_
                obtain rfl : q1 = (spotsL s).length - 1 := by omega
                obtain rfl : q_ = (spotsL s).length - 1 := by omega
                rw [hpl] at hx1 hx_
                cases hx1
                cases hx_
                refine ⟨_, width_ok W _, ?_⟩; (refine g0_ ?_; repeat ((first | refine n1_ fun b_ => ?_ | refine n2_ fun b_ => ?_ | refine Nat1.mk fun q_ hq_ => ?_ | refine em_ fun x_ hx_ => ?_ | refine Elem1.mk fun e_ he_ => ?_); refine g0_ ?_))
                by_cases hla : lastEnd (spotsL s) < ax
                · rw [if_pos ⟨by omega, hla⟩]
                  rw [hle] at hla
                  (refine g1_ ?_; repeat ((first | refine n1_ fun b_ => ?_ | refine n2_ fun b_ => ?_ | refine Nat1.mk fun q_ hq_ => ?_ | refine em_ fun x_ hx_ => ?_ | refine Elem1.mk fun e_ he_ => ?_); refine g1_ ?_))
                  refine jx_ () ?_
                  trivial
                · rw [if_neg (fun h => hla h.2)]
                  rw [hle] at hla
                  (refine g1_ ?_; repeat ((first | refine n1_ fun b_ => ?_ | refine n2_ fun b_ => ?_ | refine Nat1.mk fun q_ hq_ => ?_ | refine em_ fun x_ hx_ => ?_ | refine Elem1.mk fun e_ he_ => ?_); refine g1_ ?_))
                  refine jx_ () ?_
                  trivial
              · rw [fromF, if_neg (by simp; omega)]
                (refine g1_ ?_; repeat ((first | refine n1_ fun b_ => ?_ | refine n2_ fun b_ => ?_ | refine Nat1.mk fun q_ hq_ => ?_ | refine em_ fun x_ hx_ => ?_ | refine Elem1.mk fun e_ he_ => ?_); refine g1_ ?_))
                refine jx_ () ?_
                trivial
            rintro - -
            (refine gj_ ?_; repeat ((first | refine n1_ fun b_ => ?_ | refine n2_ fun b_ => ?_ | refine Nat1.mk fun q_ hq_ => ?_ | refine em_ fun x_ hx_ => ?_ | refine Elem1.mk fun e_ he_ => ?_); refine gj_ ?_))
            first | refine' joinT (α := Unit) (fun u => [(16, .int .i64 (toF (spotsL s) (decide ((y : Int) = BY)) bx))]) [(0, _), (7, _), (8, _), (9, _), (10, _), (11, _), (12, _), (13, _), (14, _), (15, _), (65, _), (66, _), (67, _)] (fun u => [⟨b14, .row 2 [encSpot p] 0⟩] ++ ([] ++ [⟨b8, .row 2 [.agg [.int .i64 bx, .int .i64 BY]] 0⟩, ⟨b7, .row 2 [.agg [.int .i64 ax, .int .i64 AY]] 0⟩] ++ bldS bw cb t)) (fun u => True) ?_ ?_ | refine' joinF (α := Unit) (fun u => [(16, .int .i64 (toF (spotsL s) (decide ((y : Int) = BY)) bx))]) [(0, _), (7, _), (8, _), (9, _), (10, _), (11, _), (12, _), (13, _), (14, _), (15, _), (65, _), (66, _), (67, _)] (fun u => [⟨b14, .row 2 [encSpot p] 0⟩] ++ ([] ++ [⟨b8, .row 2 [.agg [.int .i64 bx, .int .i64 BY]] 0⟩, ⟨b7, .row 2 [.agg [.int .i64 ax, .int .i64 AY]] 0⟩] ++ bldS bw cb t)) (fun u => True) ?_ ?_
            · by_cases hyB : (y : Int) = BY
              · rw [toF, if_pos (decide_eq_true hyB)]
                (refine g1_ ?_; repeat ((first | refine n1_ fun b_ => ?_ | refine n2_ fun b_ => ?_ | refine Nat1.mk fun q_ hq_ => ?_ | refine em_ fun x_ hx_ => ?_ | refine Elem1.mk fun e_ he_ => ?_); refine g1_ ?_))
                refine (at_ok W (spotsL s) bx (by omega)).use ?_; (refine g0_ ?_; repeat ((first | refine n1_ fun b_ => ?_ | refine n2_ fun b_ => ?_ | refine Nat1.mk fun q_ hq_ => ?_ | refine em_ fun x_ hx_ => ?_ | refine Elem1.mk fun e_ he_ => ?_); refine g0_ ?_))
                refine jx_ () ?_
                trivial
              · rw [toF, if_neg (by simp; omega)]
                (refine g1_ ?_; repeat ((first | refine n1_ fun b_ => ?_ | refine n2_ fun b_ => ?_ | refine Nat1.mk fun q_ hq_ => ?_ | refine em_ fun x_ hx_ => ?_ | refine Elem1.mk fun e_ he_ => ?_); refine g1_ ?_))
                refine jx_ () ?_
                trivial
            rintro - -
            generalize fromF (spotsL s) (decide ((y : Int) = AY)) ax = F at *
            generalize toF (spotsL s) (decide ((y : Int) = BY)) bx = G at *
            by_cases hft : F ≤ k ∧ (k : Int) ≤ G
            · rw [if_pos hft] at ht
              (refine g1_ ?_; repeat ((first | refine n1_ fun b_ => ?_ | refine n2_ fun b_ => ?_ | refine Nat1.mk fun q_ hq_ => ?_ | refine em_ fun x_ hx_ => ?_ | refine Elem1.mk fun e_ he_ => ?_); refine g1_ ?_))
              refine ACalls.lendE (r := [⟨b14, .row 2 [encSpot p] 0⟩] ++ ([] ++ [⟨b8, .row 2 [.agg [.int .i64 bx, .int .i64 BY]] 0⟩, ⟨b7, .row 2 [.agg [.int .i64 ax, .int .i64 AY]] 0⟩])) (writeRune_ok W bw cb t p.1 (by omega) (by omega)) (.refl _) ?_
              rintro cb' -
              (refine g0_ ?_; repeat ((first | refine n1_ fun b_ => ?_ | refine n2_ fun b_ => ?_ | refine Nat1.mk fun q_ hq_ => ?_ | refine em_ fun x_ hx_ => ?_ | refine Elem1.mk fun e_ he_ => ?_); refine g0_ ?_))
              refine nx_ (k + 1, cb', t ++ Lib.encodeRune p.1) ?_ ?_
              · have he := enc_le p.1
                exact ⟨by omega, by rw [← ht, List.append_assoc], by rw [List.length_append]; omega⟩
              · ((try dsimp only); (try simp only [List.length_drop, List.length_take, List.length_append, List.length_cons, List.length_nil, List.length_map] at *); omega)
            · rw [if_neg hft, List.nil_append] at ht
              by_cases hF : F ≤ k
              · have hG : ¬ (k : Int) ≤ G := fun h => hft ⟨hF, h⟩
                (refine g1_ ?_; repeat ((first | refine n1_ fun b_ => ?_ | refine n2_ fun b_ => ?_ | refine Nat1.mk fun q_ hq_ => ?_ | refine em_ fun x_ hx_ => ?_ | refine Elem1.mk fun e_ he_ => ?_); refine g1_ ?_))
                refine nx_ (k + 1, cb, t) ?_ ?_
                · exact ⟨by omega, ht, by omega⟩
                · ((try dsimp only); (try simp only [List.length_drop, List.length_take, List.length_append, List.length_cons, List.length_nil, List.length_map] at *); omega)
              · (refine g1_ ?_; repeat ((first | refine n1_ fun b_ => ?_ | refine n2_ fun b_ => ?_ | refine Nat1.mk fun q_ hq_ => ?_ | refine em_ fun x_ hx_ => ?_ | refine Elem1.mk fun e_ he_ => ?_); refine g1_ ?_))
                refine nx_ (k + 1, cb, t) ?_ ?_
                · exact ⟨by omega, ht, by omega⟩
                · ((try dsimp only); (try simp only [List.length_drop, List.length_take, List.length_append, List.length_cons, List.length_nil, List.length_map] at *); omega)
      · simp only [List.length_cons] at hy
        (refine g0_ ?_; repeat ((first | refine n1_ fun b_ => ?_ | refine n2_ fun b_ => ?_ | refine Nat1.mk fun q_ hq_ => ?_ | refine em_ fun x_ hx_ => ?_ | refine Elem1.mk fun e_ he_ => ?_); refine g0_ ?_))
        refine brec ?_; intro c_ h2; (try rw [h2]); cases c_ <;> replace h2 := nm_ h2
        · obtain rfl : y = BY + 1 := by omega
          rw [Nat.sub_self] at hr
          have hjl := join_len 16000 _ (rowsT_le g2 ⟨ax, AY⟩ ⟨bx, BY⟩ AY (BY + 1 - AY))
          rw [rowsT_len] at hjl
          (refine g0_ ?_; repeat ((first | refine n1_ fun b_ => ?_ | refine n2_ fun b_ => ?_ | refine Nat1.mk fun q_ hq_ => ?_ | refine em_ fun x_ hx_ => ?_ | refine Elem1.mk fun e_ he_ => ?_); refine g0_ ?_))
          refine (join_ok W (rowsT ls ⟨ax, AY⟩ ⟨bx, BY⟩ AY (BY + 1 - AY)) [10] (by rw [rowsT_len]; omega) (by omega)).borrow rfl rfl (fun j hj => ?_) ?_
          · match j, hj with
            | 0, _ =>
              show Frz _ _ (.sl 1 ((rowsT ls ⟨ax, AY⟩ ⟨bx, BY⟩ AY (BY + 1 - AY)).map PV.str))
              rw [← hr, show rowsT ls ⟨ax, AY⟩ ⟨bx, BY⟩ (BY + 1) 0 = [] from rfl, List.map_nil, List.append_nil]
              exact frz_row (.here _ _ _) _ (by simp)
            | 1, _ => exact .refl _
          have hT0 : Lib.join (rowsT ls ⟨ax, AY⟩ ⟨bx, BY⟩ AY (BY + 1 - AY)) [10] = textT ls ⟨ax, AY⟩ ⟨bx, BY⟩ := rfl
          rw [hT0]
          by_cases hlong : 4000 < (textT ls ⟨ax, AY⟩ ⟨bx, BY⟩).length
          · rw [if_pos hlong]
            (refine g1_ ?_; repeat ((first | refine n1_ fun b_ => ?_ | refine n2_ fun b_ => ?_ | refine Nat1.mk fun q_ hq_ => ?_ | refine em_ fun x_ hx_ => ?_ | refine Elem1.mk fun e_ he_ => ?_); refine g1_ ?_))
            exact .refl _
          · rw [if_neg hlong]
            (refine g1_ ?_; repeat ((first | refine n1_ fun b_ => ?_ | refine n2_ fun b_ => ?_ | refine Nat1.mk fun q_ hq_ => ?_ | refine em_ fun x_ hx_ => ?_ | refine Elem1.mk fun e_ he_ => ?_); refine g1_ ?_))
            exact .refl _
        · obtain ⟨s, hs⟩ : ∃ s, ls[y]? = some s := ⟨ls[y]'(by omega), List.getElem?_eq_getElem _⟩
          have hsb := g2 s (List.mem_of_getElem? hs)
          have hsl := spotsL_le s
          have hlm2 : ((spotsL s).map encSpot).length = (spotsL s).length := List.length_map _
          (refine g0_ ?_; repeat ((first | refine n1_ fun b_ => ?_ | refine n2_ fun b_ => ?_ | refine Nat1.mk fun q_ hq_ => ?_ | refine em_ fun x_ hx_ => ?_ | refine Elem1.mk fun e_ he_ => ?_); refine g0_ ?_))
          obtain ⟨bw, rfl⟩ : ∃ bw, bw = b_ := ⟨_, rfl⟩
          refine (places_ok W hT s (by omega)).use ?_; (refine g0_ ?_; repeat ((first | refine n1_ fun b_ => ?_ | refine n2_ fun b_ => ?_ | refine Nat1.mk fun q_ hq_ => ?_ | refine em_ fun x_ hx_ => ?_ | refine Elem1.mk fun e_ he_ => ?_); refine g0_ ?_))
          refine' loopI (α := Nat × Nat × (List UInt8)) (fun (k, cb, t) => [(67, .int .i64 k)]) [(0, _), (7, _), (8, _), (9, _), (10, _), (11, _), (12, _), (65, _), (66, _)] (fun (k, cb, t) => [⟨bo, .row 1 (r0 :: rows) 0⟩] ++ [⟨b8, .row 2 [.agg [.int .i64 bx, .int .i64 BY]] 0⟩, ⟨b7, .row 2 [.agg [.int .i64 ax, .int .i64 AY]] 0⟩] ++ bldS bw cb t) (fun (k, cb, t) => k ≤ (spotsL s).length ∧ t ++ takeB (fromF (spotsL s) (decide ((y : Int) = AY)) ax) (toF (spotsL s) (decide ((y : Int) = BY)) bx) k ((spotsL s).drop k) = lineT ⟨ax, AY⟩ ⟨bx, BY⟩ s y ∧ t.length ≤ 4 * k) (fun (k, cb, t) => (spotsL s).length - k) (0, 0, []) ?_ ?_
          · exact ⟨Nat.zero_le _, rfl, by simp⟩
          rintro ⟨k, cb, t⟩ ⟨hk, ht, htl⟩
          (refine g0_ ?_; repeat ((first | refine n1_ fun b_ => ?_ | refine n2_ fun b_ => ?_ | refine Nat1.mk fun q_ hq_ => ?_ | refine em_ fun x_ hx_ => ?_ | refine Elem1.mk fun e_ he_ => ?_); refine g0_ ?_))
          refine brec ?_; intro c_ h3; (try rw [h3]); cases c_ <;> replace h3 := nm_ h3
          · rw [hlm2] at h3
            obtain rfl : k = (spotsL s).length := by omega
            rw [List.drop_length, takeB, List.append_nil] at ht
            have hsd : ls.getD y [] = s := by rw [List.getD_eq_getElem?_getD, hs]; rfl
            rw [show BY + 1 - y = (BY - y) + 1 by omega, rowsT_succ, hsd] at hr
            (refine g0_ ?_; repeat ((first | refine n1_ fun b_ => ?_ | refine n2_ fun b_ => ?_ | refine Nat1.mk fun q_ hq_ => ?_ | refine em_ fun x_ hx_ => ?_ | refine Elem1.mk fun e_ he_ => ?_); refine g0_ ?_))
            refine ACalls.lendE (r := [⟨bo, .row 1 (r0 :: rows) 0⟩] ++ [⟨b8, .row 2 [.agg [.int .i64 bx, .int .i64 BY]] 0⟩, ⟨b7, .row 2 [.agg [.int .i64 ax, .int .i64 AY]] 0⟩]) (string_ok W bw cb t (by omega)) (.refl _) ?_
            rintro _ -
            rw [ht]
            (refine g0_ ?_; repeat ((first | refine n1_ fun b_ => ?_ | refine n2_ fun b_ => ?_ | refine Nat1.mk fun q_ hq_ => ?_ | refine em_ fun x_ hx_ => ?_ | refine Elem1.mk fun e_ he_ => ?_); refine g0_ ?_))
            refine .inl ?_
            (refine g0_ ?_; repeat ((first | refine n1_ fun b_ => ?_ | refine n2_ fun b_ => ?_ | refine Nat1.mk fun q_ hq_ => ?_ | refine em_ fun x_ hx_ => ?_ | refine Elem1.mk fun e_ he_ => ?_); refine g0_ ?_))
            refine nx_ (y + 1, b_, (r0 :: rows) ++ [.str (lineT ⟨ax, AY⟩ ⟨bx, BY⟩ s y)]) ?_ ?_
            · exact ⟨⟨by omega, by omega, by simp only [List.length_append, List.length_cons, List.length_nil] at hy ⊢; omega⟩, by rw [← hr, show BY + 1 - (y + 1) = BY - y by omega]; simp⟩
            · ((try dsimp only); (try simp only [List.length_drop, List.length_take, List.length_append, List.length_cons, List.length_nil, List.length_map] at *); omega)
          · rw [hlm2] at h3
            obtain ⟨p, hp⟩ : ∃ p, (spotsL s)[k]? = some p := ⟨(spotsL s)[k]'(by omega), List.getElem?_eq_getElem _⟩
            have hpr := spots_range s p (List.mem_of_getElem? hp)
            rw [drop_cons_of hp, takeB] at ht
            (refine gj_ ?_; repeat ((first | refine n1_ fun b_ => ?_ | refine n2_ fun b_ => ?_ | refine Nat1.mk fun q_ hq_ => ?_ | refine em_ fun x_ hx_ => ?_ | refine Elem1.mk fun e_ he_ => ?_); refine gj_ ?_))
            obtain ⟨b14, rfl⟩ : ∃ b14, b14 = b_ := ⟨_, rfl⟩
            first | refine' joinT (α := Unit) (fun u => [(15, .int .i64 (fromF (spotsL s) (decide ((y : Int) = AY)) ax))]) [(0, _), (7, _), (8, _), (9, _), (10, _), (11, _), (12, _), (13, _), (14, _), (16, _), (65, _), (66, _), (67, _)] (fun u => [⟨b14, .row 2 [encSpot p] 0⟩] ++ ([⟨bo, .row 1 (r0 :: rows) 0⟩] ++ [⟨b8, .row 2 [.agg [.int .i64 bx, .int .i64 BY]] 0⟩, ⟨b7, .row 2 [.agg [.int .i64 ax, .int .i64 AY]] 0⟩] ++ bldS bw cb t)) (fun u => True) ?_ ?_ | refine' joinF (α := Unit) (fun u => [(15, .int .i64 (fromF (spotsL s) (decide ((y : Int) = AY)) ax))]) [(0, _), (7, _), (8, _), (9, _), (10, _), (11, _), (12, _), (13, _), (14, _), (16, _), (65, _), (66, _), (67, _)] (fun u => [⟨b14, .row 2 [encSpot p] 0⟩] ++ ([⟨bo, .row 1 (r0 :: rows) 0⟩] ++ [⟨b8, .row 2 [.agg [.int .i64 bx, .int .i64 BY]] 0⟩, ⟨b7, .row 2 [.agg [.int .i64 ax, .int .i64 AY]] 0⟩] ++ bldS bw cb t)) (fun u => True) ?_ ?_
            · by_cases hyA : (y : Int) = AY
              · rw [fromF, if_pos (decide_eq_true hyA)]
                (refine g1_ ?_; repeat ((first | refine n1_ fun b_ => ?_ | refine n2_ fun b_ => ?_ | refine Nat1.mk fun q_ hq_ => ?_ | refine em_ fun x_ hx_ => ?_ | refine Elem1.mk fun e_ he_ => ?_); refine g1_ ?_))
                refine (at_ok W (spotsL s) ax (by omega)).use ?_; (refine g0_ ?_; repeat ((first | refine n1_ fun b_ => ?_ | refine n2_ fun b_ => ?_ | refine Nat1.mk fun q_ hq_ => ?_ | refine em_ fun x_ hx_ => ?_ | refine Elem1.mk fun e_ he_ => ?_); refine g0_ ?_))
                refine Draws6.old (head_ ?_)
                (refine g1_ ?_; repeat ((first | refine n1_ fun b_ => ?_ | refine n2_ fun b_ => ?_ | refine Nat1.mk fun q_ hq_ => ?_ | refine em_ fun x_ hx_ => ?_ | refine Elem1.mk fun e_ he_ => ?_); refine g1_ ?_))
                rename_i q1 hq1 x1 hx1
                obtain ⟨pl, hpl⟩ : ∃ pl, (spotsL s)[(spotsL s).length - 1]? = some pl := ⟨_, List.getElem?_eq_getElem (by omega)⟩
                have hle : lastEnd (spotsL s) = pl.2 + widthL pl.1 - 1 := by rw [lastEnd, List.getLast?_eq_getElem?, hpl]
                have hplx := spots_x s pl (List.mem_of_getElem? hpl)
                have hplw := widthL_le pl.1
                rw [hlm2] at hq1 hq_
                obtain rfl : q1 = (spotsL s).length - 1 := by omega
                obtain rfl : q_ = (spotsL s).length - 1 := by omega
                rw [hpl] at hx1 hx_
                cases hx1
                cases hx_
                refine ⟨_, width_ok W _, ?_⟩; (refine g0_ ?_; repeat ((first | refine n1_ fun b_ => ?_ | refine n2_ fun b_ => ?_ | refine Nat1.mk fun q_ hq_ => ?_ | refine em_ fun x_ hx_ => ?_ | refine Elem1.mk fun e_ he_ => ?_); refine g0_ ?_))
                by_cases hla : lastEnd (spotsL s) < ax
                · rw [if_pos ⟨by omega, hla⟩]
                  rw [hle] at hla
                  (refine g1_ ?_; repeat ((first | refine n1_ fun b_ => ?_ | refine n2_ fun b_ => ?_ | refine Nat1.mk fun q_ hq_ => ?_ | refine em_ fun x_ hx_ => ?_ | refine Elem1.mk fun e_ he_ => ?_); refine g1_ ?_))
                  refine jx_ () ?_
                  trivial
                · rw [if_neg (fun h => hla h.2)]
                  rw [hle] at hla
                  (refine g1_ ?_; repeat ((first | refine n1_ fun b_ => ?_ | refine n2_ fun b_ => ?_ | refine Nat1.mk fun q_ hq_ => ?_ | refine em_ fun x_ hx_ => ?_ | refine Elem1.mk fun e_ he_ => ?_); refine g1_ ?_))
                  refine jx_ () ?_
                  trivial
              · rw [fromF, if_neg (by simp; omega)]
                (refine g1_ ?_; repeat ((first | refine n1_ fun b_ => ?_ | refine n2_ fun b_ => ?_ | refine Nat1.mk fun q_ hq_ => ?_ | refine em_ fun x_ hx_ => ?_ | refine Elem1.mk fun e_ he_ => ?_); refine g1_ ?_))
                refine jx_ () ?_
                trivial
            rintro - -
            (refine gj_ ?_; repeat ((first | refine n1_ fun b_ => ?_ | refine n2_ fun b_ => ?_ | refine Nat1.mk fun q_ hq_ => ?_ | refine em_ fun x_ hx_ => ?_ | refine Elem1.mk fun e_ he_ => ?_); refine gj_ ?_))
            first | refine' joinT (α := Unit) (fun u => [(16, .int .i64 (toF (spotsL s) (decide ((y : Int) = BY)) bx))]) [(0, _), (7, _), (8, _), (9, _), (10, _), (11, _), (12, _), (13, _), (14, _), (15, _), (65, _), (66, _), (67, _)] (fun u => [⟨b14, .row 2 [encSpot p] 0⟩] ++ ([⟨bo, .row 1 (r0 :: rows) 0⟩] ++ [⟨b8, .row 2 [.agg [.int .i64 bx, .int .i64 BY]] 0⟩, ⟨b7, .row 2 [.agg [.int .i64 ax, .int .i64 AY]] 0⟩] ++ bldS bw cb t)) (fun u => True) ?_ ?_ | refine' joinF (α := Unit) (fun u => [(16, .int .i64 (toF (spotsL s) (decide ((y : Int) = BY)) bx))]) [(0, _), (7, _), (8, _), (9, _), (10, _), (11, _), (12, _), (13, _), (14, _), (15, _), (65, _), (66, _), (67, _)] (fun u => [⟨b14, .row 2 [encSpot p] 0⟩] ++ ([⟨bo, .row 1 (r0 :: rows) 0⟩] ++ [⟨b8, .row 2 [.agg [.int .i64 bx, .int .i64 BY]] 0⟩, ⟨b7, .row 2 [.agg [.int .i64 ax, .int .i64 AY]] 0⟩] ++ bldS bw cb t)) (fun u => True) ?_ ?_
            · by_cases hyB : (y : Int) = BY
              · rw [toF, if_pos (decide_eq_true hyB)]
                (refine g1_ ?_; repeat ((first | refine n1_ fun b_ => ?_ | refine n2_ fun b_ => ?_ | refine Nat1.mk fun q_ hq_ => ?_ | refine em_ fun x_ hx_ => ?_ | refine Elem1.mk fun e_ he_ => ?_); refine g1_ ?_))
                refine (at_ok W (spotsL s) bx (by omega)).use ?_; (refine g0_ ?_; repeat ((first | refine n1_ fun b_ => ?_ | refine n2_ fun b_ => ?_ | refine Nat1.mk fun q_ hq_ => ?_ | refine em_ fun x_ hx_ => ?_ | refine Elem1.mk fun e_ he_ => ?_); refine g0_ ?_))
                refine jx_ () ?_
                trivial
              · rw [toF, if_neg (by simp; omega)]
                (refine g1_ ?_; repeat ((first | refine n1_ fun b_ => ?_ | refine n2_ fun b_ => ?_ | refine Nat1.mk fun q_ hq_ => ?_ | refine em_ fun x_ hx_ => ?_ | refine Elem1.mk fun e_ he_ => ?_); refine g1_ ?_))
                refine jx_ () ?_
                trivial
            rintro - -
            generalize fromF (spotsL s) (decide ((y : Int) = AY)) ax = F at *
            generalize toF (spotsL s) (decide ((y : Int) = BY)) bx = G at *
            by_cases hft : F ≤ k ∧ (k : Int) ≤ G
            · rw [if_pos hft] at ht
              (refine g1_ ?_; repeat ((first | refine n1_ fun b_ => ?_ | refine n2_ fun b_ => ?_ | refine Nat1.mk fun q_ hq_ => ?_ | refine em_ fun x_ hx_ => ?_ | refine Elem1.mk fun e_ he_ => ?_); refine g1_ ?_))
              refine ACalls.lendE (r := [⟨b14, .row 2 [encSpot p] 0⟩] ++ ([⟨bo, .row 1 (r0 :: rows) 0⟩] ++ [⟨b8, .row 2 [.agg [.int .i64 bx, .int .i64 BY]] 0⟩, ⟨b7, .row 2 [.agg [.int .i64 ax, .int .i64 AY]] 0⟩])) (writeRune_ok W bw cb t p.1 (by omega) (by omega)) (.refl _) ?_
              rintro cb' -
              (refine g0_ ?_; repeat ((first | refine n1_ fun b_ => ?_ | refine n2_ fun b_ => ?_ | refine Nat1.mk fun q_ hq_ => ?_ | refine em_ fun x_ hx_ => ?_ | refine Elem1.mk fun e_ he_ => ?_); refine g0_ ?_))
              refine nx_ (k + 1, cb', t ++ Lib.encodeRune p.1) ?_ ?_
              · have he := enc_le p.1
                exact ⟨by omega, by rw [← ht, List.append_assoc], by rw [List.length_append]; omega⟩
              · ((try dsimp only); (try simp only [List.length_drop, List.length_take, List.length_append, List.length_cons, List.length_nil, List.length_map] at *); omega)
            · rw [if_neg hft, List.nil_append] at ht
              by_cases hF : F ≤ k
              · have hG : ¬ (k : Int) ≤ G := fun h => hft ⟨hF, h⟩
                (refine g1_ ?_; repeat ((first | refine n1_ fun b_ => ?_ | refine n2_ fun b_ => ?_ | refine Nat1.mk fun q_ hq_ => ?_ | refine em_ fun x_ hx_ => ?_ | refine Elem1.mk fun e_ he_ => ?_); refine g1_ ?_))
                refine nx_ (k + 1, cb, t) ?_ ?_
                · exact ⟨by omega, ht, by omega⟩
                · ((try dsimp only); (try simp only [List.length_drop, List.length_take, List.length_append, List.length_cons, List.length_nil, List.length_map] at *); omega)
              · (refine g1_ ?_; repeat ((first | refine n1_ fun b_ => ?_ | refine n2_ fun b_ => ?_ | refine Nat1.mk fun q_ hq_ => ?_ | refine em_ fun x_ hx_ => ?_ | refine Elem1.mk fun e_ he_ => ?_); refine g1_ ?_))
                refine nx_ (k + 1, cb, t) ?_ ?_
                · exact ⟨by omega, ht, by omega⟩
                · ((try dsimp only); (try simp only [List.length_drop, List.length_take, List.length_append, List.length_cons, List.length_nil, List.length_map] at *); omega)
  · have hE : takeE ls c = ([], checkC ls c) := by rw [takeE, if_pos h]
    rw [hE]
    refine Pure.of (acalls_of_vc (DF_ok (by decide)) Tryd.func9 rfl (by decide) (by decide) rfl ?_)
    (refine g0_ ?_; repeat ((first | refine n1_ fun b_ => ?_ | refine n2_ fun b_ => ?_ | refine Nat1.mk fun q_ hq_ => ?_ | refine em_ fun x_ hx_ => ?_ | refine Elem1.mk fun e_ he_ => ?_); refine g0_ ?_))
    refine (hck).use ?_; (refine g0_ ?_; repeat ((first | refine n1_ fun b_ => ?_ | refine n2_ fun b_ => ?_ | refine Nat1.mk fun q_ hq_ => ?_ | refine em_ fun x_ hx_ => ?_ | refine Elem1.mk fun e_ he_ => ?_); refine g0_ ?_))
    (refine g1_ ?_; repeat ((first | refine n1_ fun b_ => ?_ | refine n2_ fun b_ => ?_ | refine Nat1.mk fun q_ hq_ => ?_ | refine em_ fun x_ hx_ => ?_ | refine Elem1.mk fun e_ he_ => ?_); refine g1_ ?_))
    exact .refl _
end Go.Eng.YtdepccblnhkmkaaDoor
end

/- Places in lines, compared. -/
section
namespace Go.Eng.YtdepccblnhkmkaaDoor
open Go Go.Eng Go.Proofs
variable (W : World)
set_option linter.unusedSimpArgs false
set_option maxRecDepth 100000
set_option linter.unusedVariables false
set_option maxHeartbeats 4000000
def Mark.ok (m : Mark) : Prop := i64ok m.x ∧ i64ok m.y
instance (m : Mark) : Decidable m.ok := inferInstanceAs (Decidable (_ ∧ _))
def Copying.ok (c : Copying) : Prop := c.at_.ok ∧ c.from_.ok
instance (c : Copying) : Decidable c.ok := inferInstanceAs (Decidable (_ ∧ _))
theorem cells_mark : Tryd.prog.cellsOf 24 = 2 := by kernel_rfl
theorem cells_copying : Tryd.prog.cellsOf 26 = 5 := by kernel_rfl
theorem cells_bool : Tryd.prog.cellsOf 4 = 1 := by kernel_rfl
def litsMark (m : Mark) : List Lit := [.int .i64 m.x, .int .i64 m.y]
theorem lits_mark (m : Mark) (h : m.ok) : Tryd.prog.keyLits 3 24 [.int .i64 m.x, .int .i64 m.y] = some (litsMark m) := by
  have h1 := wf_of_ok h.1
  have h2 := wf_of_ok h.2
  have hk : ∀ n : Int, (Lit.int .i64 n).wf = true → Tryd.prog.keyLits 2 3 [.int .i64 n] = some [.int .i64 n] := fun n hn => by simp [Program.keyLits, Tryd.underlying3, hn]
  conv => lhs; unfold Program.keyLits
  rw [Tryd.underlying24]
  dsimp only
  rw [if_pos ⟨by rw [cells_mark]; rfl, by simp⟩]
  simp only [List.mapM_cons, List.mapM_nil]
  rw [cells_int]
  simp only [List.drop_zero, List.drop_succ_cons, List.take_succ_cons, List.take_zero, hk _ h1, hk _ h2]
  rfl
def litsCopying (c : Copying) : List Lit := litsMark c.at_ ++ litsMark c.from_ ++ [.bool c.on]
theorem lits_copying (c : Copying) (h : c.ok) : Tryd.prog.keyLits 4 26 [.int .i64 c.at_.x, .int .i64 c.at_.y, .int .i64 c.from_.x, .int .i64 c.from_.y, .bool c.on] = some (litsCopying c) := by
  have h1 := lits_mark c.at_ h.1
  have h2 := lits_mark c.from_ h.2
  have hk : ∀ b : Bool, Tryd.prog.keyLits 3 4 [.bool b] = some [.bool b] := fun b => by simp [Program.keyLits, Tryd.underlying4, Lit.wf]
  conv => lhs; unfold Program.keyLits
  rw [Tryd.underlying26]
  dsimp only
  rw [if_pos ⟨by rw [cells_copying]; rfl, by simp⟩]
  simp only [List.mapM_cons, List.mapM_nil]
  rw [cells_mark, cells_bool]
  simp only [List.drop_zero, List.drop_succ_cons, List.take_succ_cons, List.take_zero, hk, h1, h2]
  rfl
theorem eq_mark (a b : Mark) (ha : a.ok) (hb : b.ok) (xo yo : Operand) : EqLaw Tryd.prog .eql 24 xo yo (encMark a) (encMark b) (decide (a = b)) :=
  eqLaw_agg 3 (by kernel_rfl) (by decide) (by kernel_rfl) Tryd.underlying24 rfl rfl (by rw [cells_mark]; rfl) (by rw [cells_mark]; rfl) (lits_mark a ha) (lits_mark b hb) (by
    obtain ⟨a1, a2⟩ := a
    obtain ⟨b1, b2⟩ := b
    simp [litsMark])
theorem eq_copying (a b : Copying) (ha : a.ok) (hb : b.ok) (xo yo : Operand) : EqLaw Tryd.prog .eql 26 xo yo (encCopying a) (encCopying b) (decide (a = b)) :=
  eqLaw_agg 4 (by kernel_rfl) (by decide) (by kernel_rfl) Tryd.underlying26 rfl rfl (by rw [cells_copying]; rfl) (by rw [cells_copying]; rfl) (lits_copying a ha) (lits_copying b hb) (by
    obtain ⟨⟨a1, a2⟩, ⟨a3, a4⟩, a5⟩ := a
    obtain ⟨⟨b1, b2⟩, ⟨b3, b4⟩, b5⟩ := b
    simp [litsCopying, litsMark, and_assoc])
theorem neq_copying (a b : Copying) (ha : a.ok) (hb : b.ok) (xo yo : Operand) : EqLaw Tryd.prog .neq 26 xo yo (encCopying a) (encCopying b) (!decide (a = b)) :=
  neqLaw_agg 4 (by kernel_rfl) (by decide) (by kernel_rfl) Tryd.underlying26 rfl rfl (by rw [cells_copying]; rfl) (by rw [cells_copying]; rfl) (lits_copying a ha) (lits_copying b hb) (by
    obtain ⟨⟨a1, a2⟩, ⟨a3, a4⟩, a5⟩ := a
    obtain ⟨⟨b1, b2⟩, ⟨b3, b4⟩, b5⟩ := b
    simp [litsCopying, litsMark, and_assoc])
end Go.Eng.YtdepccblnhkmkaaDoor
end

/- Lines that are copied from: the fact that the laws look at first. -/
section
namespace Go.Eng.YtdepccblnhkmkaaDoor
open Go Go.Eng Go.Proofs
variable (W : World)
set_option linter.unusedSimpArgs false
set_option maxRecDepth 100000
set_option linter.unusedVariables false
set_option maxHeartbeats 4000000
def line1 : List UInt8 := [111, 110, 101, 32, 116, 119, 111]
def line2 : List UInt8 := [230, 151, 165, 230, 156, 172, 32, 120]
def hon1 : List UInt8 := [230, 156, 172]
theorem spots_line1 : spotsL line1 = [(111, 0), (110, 1), (101, 2), (32, 3), (116, 4), (119, 5), (111, 6)] := by rw [spotsL, runes_F 8 _ (by decide)]; decide +kernel
theorem spots_line2 : spotsL line2 = [(26085, 0), (26412, 2), (32, 4), (120, 5)] := by rw [spotsL, runes_F 8 _ (by decide)]; decide +kernel
theorem want_hon1 : wantL hon1 = [26412] := by rw [wantL, cleanL, runes_clean, runes_F 8 hon1 (by decide)]; decide +kernel
theorem check_lit (c : Copying) (h1 : badM 2 c.at_ = false) (h2 : badM 2 c.from_ = false) : checkC [line1, line2] c = 0 := by
  rw [checkC, if_neg (by decide), if_neg (by decide)]
  rw [if_neg]
  simp [h1, h2]
def mark4 : Mark := ⟨4, 0⟩
theorem word_lit : wordL [line1, line2] noMark = mark4 := by
  rw [wordL]
  show (wordFrom [line1, line2] 0 false 0).getD _ = _
  rw [wordFrom, spots_line1]
  rfl
theorem move_lit : moveE [line1, line2] noCopying wordS = (⟨mark4, noMark, false⟩, 0) := by
  have hc : checkC [line1, line2] noCopying = 0 := check_lit _ (by decide) (by decide)
  have hb : moveB [line1, line2] noMark wordS = (mark4, true) := by
    rw [moveB, moveM, word_lit]
    rfl
  rw [moveE, if_neg (by simpa using hc)]
  show (if (moveB [line1, line2] noMark wordS).2 = true then _ else _) = _
  rw [show noCopying.at_ = noMark from rfl, hb]
  rfl
theorem select_lit : selectE [line1, line2] ⟨mark4, noMark, false⟩ true = (⟨mark4, mark4, true⟩, 0) := by
  have hc : checkC [line1, line2] ⟨mark4, noMark, false⟩ = 0 := check_lit _ (by decide) (by decide)
  rw [selectE, if_neg (by simpa using hc)]
  rfl
def mark21 : Mark := ⟨2, 1⟩
theorem seek_lit : seekE [line1, line2] ⟨mark4, mark4, true⟩ hon1 = (⟨mark21, mark4, true⟩, 0) := by
  have hc : checkC [line1, line2] ⟨mark4, mark4, true⟩ = 0 := check_lit _ (by decide) (by decide)
  have hs : seekM [line1, line2] [26412] mark4 = some mark21 := by
    rw [seekM]
    have e0 : stepS [line1, line2] [26412] mark4 0 = none := by
      rw [stepS]
      show (findF [26412] (askB 2 4 0) (spotsL line1)).map _ = _
      rw [spots_line1]; rfl
    have e1 : stepS [line1, line2] [26412] mark4 1 = some mark21 := by
      rw [stepS]
      show (findF [26412] (askB 2 4 1) (spotsL line2)).map _ = _
      rw [spots_line2]; rfl
    show (List.range' 0 3).findSome? _ = _
    rw [show List.range' 0 3 = [0, 1, 2] from rfl, List.findSome?_cons, e0, List.findSome?_cons, e1]
  rw [seekE, if_neg (by simpa using hc), want_hon1, if_neg (by decide)]
  show (match seekM [line1, line2] [26412] mark4 with | some m => _ | none => _) = _
  rw [hs]
def two : List UInt8 := [116, 119, 111, 10, 230, 151, 165, 230, 156, 172]
theorem take_lit : takeE [line1, line2] ⟨mark21, mark4, true⟩ = (two, 0) := by
  have hc : checkC [line1, line2] ⟨mark21, mark4, true⟩ = 0 := check_lit _ (by decide) (by decide)
  have ho : orderM mark4 mark21 = (mark4, mark21) := by rw [orderM, if_neg (by decide)]
  have ht : textT [line1, line2] mark4 mark21 = two := by
    rw [textT]
    show Lib.join (rowsT [line1, line2] mark4 mark21 0 2) [10] = _
    have h1 : lineT mark4 mark21 line1 0 = [116, 119, 111] := by rw [lineT, spots_line1]; decide +kernel
    have h2 : lineT mark4 mark21 line2 1 = [230, 151, 165, 230, 156, 172] := by rw [lineT, spots_line2]; decide +kernel
    rw [rowsT_succ, rowsT_succ]
    show Lib.join [lineT mark4 mark21 line1 0, lineT mark4 mark21 line2 1] [10] = _
    rw [h1, h2]
    decide +kernel
  rw [takeE, if_neg (by simpa using hc), if_neg (by decide)]
  show (if 4000 < (textT [line1, line2] (orderM mark4 mark21).1 (orderM mark4 mark21).2).length then _ else (textT [line1, line2] (orderM mark4 mark21).1 (orderM mark4 mark21).2, _)) = _
  rw [ho, ht, if_neg (by decide)]
theorem copied_ok (hT : Tabs W) : Pure Tryd.prog W 11 [] (.bool true) := by
  have h1 := move_ok W hT [line1, line2] noCopying wordS (by decide) (by decide)
  have h2 := select_ok W [line1, line2] ⟨mark4, noMark, false⟩ true (by decide) (by decide)
  have h3 := seek_ok W hT [line1, line2] ⟨mark4, mark4, true⟩ hon1 (by decide) (by decide) (by decide)
  have h4 := take_ok W hT [line1, line2] ⟨mark21, mark4, true⟩ (by decide) (by decide)
  rw [move_lit] at h1
  rw [select_lit] at h2
  rw [seek_lit] at h3
  rw [take_lit] at h4
  refine Pure.of (acalls_of_vc (drawOk W) Tryd.func11 rfl (by decide) (by decide) rfl ?_)
  (refine g0_ ?_; repeat ((first | refine n1_ fun b_ => ?_ | refine n2_ fun b_ => ?_ | refine Nat1.mk fun q_ hq_ => ?_ | refine em_ fun x_ hx_ => ?_ | refine Elem1.mk fun e_ he_ => ?_); refine g0_ ?_))
  refine .inl ?_
  (refine g0_ ?_; repeat ((first | refine n1_ fun b_ => ?_ | refine n2_ fun b_ => ?_ | refine Nat1.mk fun q_ hq_ => ?_ | refine em_ fun x_ hx_ => ?_ | refine Elem1.mk fun e_ he_ => ?_); refine g0_ ?_))
  refine (h1).use ?_; (refine g0_ ?_; repeat ((first | refine n1_ fun b_ => ?_ | refine n2_ fun b_ => ?_ | refine Nat1.mk fun q_ hq_ => ?_ | refine em_ fun x_ hx_ => ?_ | refine Elem1.mk fun e_ he_ => ?_); refine g0_ ?_))
  refine (h2).use ?_; (refine g0_ ?_; repeat ((first | refine n1_ fun b_ => ?_ | refine n2_ fun b_ => ?_ | refine Nat1.mk fun q_ hq_ => ?_ | refine em_ fun x_ hx_ => ?_ | refine Elem1.mk fun e_ he_ => ?_); refine g0_ ?_))
  refine (h3).use ?_; (refine g0_ ?_; repeat ((first | refine n1_ fun b_ => ?_ | refine n2_ fun b_ => ?_ | refine Nat1.mk fun q_ hq_ => ?_ | refine em_ fun x_ hx_ => ?_ | refine Elem1.mk fun e_ he_ => ?_); refine g0_ ?_))
  refine (h4).use ?_; (refine g0_ ?_; repeat ((first | refine n1_ fun b_ => ?_ | refine n2_ fun b_ => ?_ | refine Nat1.mk fun q_ hq_ => ?_ | refine em_ fun x_ hx_ => ?_ | refine Elem1.mk fun e_ he_ => ?_); refine g0_ ?_))
  refine ⟨_, eq_mark mark4 mark4 (by decide) (by decide) _ _, ?_⟩
  (refine g0_ ?_; repeat ((first | refine n1_ fun b_ => ?_ | refine n2_ fun b_ => ?_ | refine Nat1.mk fun q_ hq_ => ?_ | refine em_ fun x_ hx_ => ?_ | refine Elem1.mk fun e_ he_ => ?_); refine g0_ ?_))
  exact .refl _
end Go.Eng.YtdepccblnhkmkaaDoor
end
