/- Texts put together: Spl38, Spl40, Spl41, Spl39. -/
import Derived.Test.YtmodblkagimhlaaDoorMSB
import Derived.Lib.ItoaLen
import Derived.Test.YtmodblkagimhlaaDoorMSC
import Derived.Test.YtmodblkagimhlaaDoorMSF
import Derived.Test.YtmodblkagimhlaaDoorMBN1
import Derived.Test.YtmodblkagimhlaaDoorMS1
/- Splits: how a split is printed (plain). -/
section
namespace Go.Eng.YtmodblkagimhlaaDoor
open Go Go.Eng Go.Proofs
set_option linter.unusedSimpArgs false
set_option maxRecDepth 100000
set_option linter.unusedVariables false
set_option maxHeartbeats 4000000
def sizeS (s : Int) : List UInt8 := if s = 1 then [] else 42 :: Lib.itoa s
def opnS (w : Int) : UInt8 := if w = 1 then 123 else 91
def clsS (w : Int) : UInt8 := if w = 1 then 125 else 93
mutual
/-- A split, as it is printed. -/
def wrS : Spl → List UInt8
  | .mk w p s ks => (if w = 0 then Lib.itoa p else opnS w :: ((wrSs ks).drop 1 ++ [clsS w])) ++ sizeS s
/-- Each part, a comma ahead. -/
def wrSs : List Spl → List UInt8
  | [] => []
  | k :: ks => 44 :: wrS k ++ wrSs ks
end
theorem wrSs_eq : ∀ ks : List Spl, wrSs ks = ks.flatMap fun k => 44 :: wrS k
  | [] => rfl
  | k :: ks => by rw [wrSs, wrSs_eq ks]; rfl
theorem wrS_mk (w p s : Int) (ks : List Spl) : wrS (.mk w p s ks) = (if w = 0 then Lib.itoa p else opnS w :: ((wrSs ks).drop 1 ++ [clsS w])) ++ sizeS s := by rw [wrS]
theorem wrSs_app (A B : List Spl) : wrSs (A ++ B) = wrSs A ++ wrSs B := by rw [wrSs_eq, wrSs_eq, wrSs_eq, List.flatMap_append]
theorem wrSs_snoc {ks : List Spl} {i : Nat} {k : Spl} (h : ks[i]? = some k) : wrSs (ks.take (i + 1)) = wrSs (ks.take i) ++ 44 :: wrS k := by
  rw [take_snoc_of h, wrSs_app]
  simp [wrSs]
def digF (n : Nat) : Bool := (Lib.itoa (n + 1 : Nat)).all (fun c => decide (48 ≤ c.toNat ∧ c.toNat ≤ 57)) && decide ((Lib.itoa (n + 1 : Nat)).length ≤ 4) && decide ((Lib.itoa (n + 1 : Nat)).foldl (fun a c => a * 10 + (c.toNat - 48)) 0 = n + 1) && decide ((Lib.itoa (n + 1 : Nat)).headD 48 ≠ 48)
theorem dig_all : (List.range 9999).all digF = true := by decide +kernel
theorem itoa_dig {p : Int} (h : 1 ≤ p ∧ p ≤ 9999) : (∀ c ∈ Lib.itoa p, 48 ≤ c.toNat ∧ c.toNat ≤ 57) ∧ (Lib.itoa p).length ≤ 4 ∧ (((Lib.itoa p).foldl (fun a c => a * 10 + (c.toNat - 48)) 0 : Nat) : Int) = p ∧ (Lib.itoa p).headD 48 ≠ 48 := by
  obtain ⟨n, rfl⟩ : ∃ n : Nat, p = ((n + 1 : Nat) : Int) := ⟨(p - 1).toNat, by omega⟩
  have := List.all_eq_true.1 dig_all n (List.mem_range.2 (by omega))
  unfold digF at this
  simp only [Bool.and_eq_true, decide_eq_true_eq, List.all_eq_true] at this
  obtain ⟨⟨⟨a1, a2⟩, a3⟩, a4⟩ := this
  exact ⟨a1, a2, by rw [a3], a4⟩
theorem itoa_ne {p : Int} (h : 1 ≤ p ∧ p ≤ 9999) : Lib.itoa p ≠ [] := fun e => by
  have := (itoa_dig h).2.2.2
  rw [e] at this
  exact this rfl
theorem size_len {s : Int} (h : 1 ≤ s ∧ s ≤ 9999) : (sizeS s).length ≤ 5 := by
  unfold sizeS
  have := (itoa_dig h).2.1
  split
  · exact Nat.zero_le _
  · rw [List.length_cons]; omega
/-- How long a right split's text is. -/
theorem wrS_len (t : Spl) : ∀ way, t.right way → (wrS t).length + 10 ≤ 20 * (panesT t).length := by
  induction t using spl_induct with
  | h w p s ks ih =>
    intro way hr
    rw [right_mk] at hr
    rw [wrS_mk, panesT_mk]
    have h5 := size_len hr.1
    rcases hr.2 with ⟨h0, hk, h1⟩ | ⟨hw, -, hk2, hp, hkr⟩
    · rw [if_pos h0, if_pos h0]
      have := (itoa_dig h1).2.1
      rw [List.length_append, List.length_singleton]
      omega
    · rw [if_neg (by omega), if_neg (by omega)]
      have key : ∀ l : List Spl, (∀ k ∈ l, k ∈ ks) → (wrSs l).length + 9 * l.length ≤ 20 * (l.flatMap panesT).length := by
        intro l
        induction l with
        | nil => intro _; simp [wrSs]
        | cons k l ihl =>
          intro hl
          have h1 := ihl fun x hx => hl x (List.mem_cons_of_mem _ hx)
          have h2 := ih k (hl k (by simp)) w (hkr k (hl k (by simp)))
          rw [wrSs, List.flatMap_cons]
          simp only [List.length_append, List.length_cons]
          omega
      have := key ks fun _ h => h
      simp only [List.length_append, List.length_cons, List.length_nil, List.length_drop]
      omega
end Go.Eng.YtmodblkagimhlaaDoor
end

/- Splits: any printed split is read: numbers, parts (b_ x_ q_ e_). -/
section
namespace Go.Eng.YtmodblkagimhlaaDoor
open Go Go.Eng Go.Proofs Go.RowKit
variable (W : World)
set_option linter.unusedSimpArgs false
set_option maxRecDepth 100000
set_option linter.unusedVariables false
set_option maxHeartbeats 4000000
theorem nextN_drop (s : List UInt8) (i j : Nat) : nextN s (i + j) = (((s.drop i)[j]?).map UInt8.toNat).getD 0 := by
  rw [nextN, List.getElem?_drop]
/-- What may stand behind a number. -/
def stopD (r : List UInt8) : Prop := ∀ c, r[0]? = some c → c.toNat < 48 ∨ 57 < c.toNat
/-- What may stand behind a split. -/
def stopB (r : List UInt8) : Prop := stopD r ∧ r[0]? ≠ some 42
def stD (a : Nat) (c : UInt8) : Nat := a * 10 + (c.toNat - 48)
end Go.Eng.YtmodblkagimhlaaDoor
end

/- Splits: any printed split is read (b_ x_ q_ e_). -/
section
namespace Go.Eng.YtmodblkagimhlaaDoor
open Go Go.Eng Go.Proofs Go.RowKit
variable (W : World)
set_option linter.unusedSimpArgs false
set_option maxRecDepth 100000
set_option linter.unusedVariables false
set_option maxHeartbeats 4000000
theorem frz_own4 {σ : Mem} {w z : Int} {v : PV} {ks : List Spl} (h : Frz σ v (.sl 4 (ks.map encSpl))) : Frz σ (.agg [.int .i64 w, .int .i64 0, .int .i64 z, v]) (.agg [.int .i64 w, .int .i64 0, .int .i64 z, .sl 4 (ks.map encSpl)]) := by
  refine .agg _ _ rfl fun j hj => ?_
  match j, hj with
  | 0, _ => exact .refl _
  | 1, _ => exact .refl _
  | 2, _ => exact .refl _
  | 3, _ => exact h
theorem frz_leafZ {σ : Mem} (p z : Int) : Frz σ (.agg [.int .i64 0, .int .i64 p, .int .i64 z, .nils]) (.agg [.int .i64 0, .int .i64 p, .int .i64 z, .sl 4 (([] : List Spl).map encSpl)]) := by
  refine .agg _ _ rfl fun j hj => ?_
  match j, hj with
  | 0, _ => exact .refl _
  | 1, _ => exact .refl _
  | 2, _ => exact .refl _
  | 3, _ => exact .nils 4
theorem frz_last {σ r : Mem} {b m : Nat} {L : List PV} {ks : List Spl} {w z : Int} (hL : L = ks.map encSpl) (hl : Look σ b (.row 4 L 0) r) (hm : m = L.length) : Frz σ (.agg [.int .i64 w, .int .i64 0, .int .i64 z, .rsl b 4 0 m]) (.agg [.int .i64 w, .int .i64 0, .int .i64 z, .sl 4 (ks.map encSpl)]) := by
  subst hL
  exact frz_own4 (frz_row hl m hm)
end Go.Eng.YtmodblkagimhlaaDoor
end

/- Splits: a split printed (b_ x_ q_ e_). -/
section
namespace Go.Eng.YtmodblkagimhlaaDoor
open Go Go.Eng Go.Proofs
variable (W : World)
set_option linter.unusedSimpArgs false
set_option maxRecDepth 100000
set_option linter.unusedVariables false
set_option maxHeartbeats 4000000
theorem wrSs_cnt : ∀ ks : List Spl, ks.length ≤ (wrSs ks).length
  | [] => Nat.zero_le _
  | k :: ks => by
    have := wrSs_cnt ks
    rw [wrSs]
    simp only [List.length_append, List.length_cons]
    omega
theorem writeS_ok (hN : Nums W) (b : Nat) (t : Spl) : ∀ (way : Int) (c : Nat) (l : List UInt8), t.right way → l.length + (wrS t).length ≤ 70368744177664 →
    ACalls Tryd.prog W 48 [.tpt 89 2 b, encSpl t] (bldS b c l) (Gives (fun _ : Nat => .tup []) (fun c => bldS b c (l ++ wrS t)) (fun _ => True)) := by
  induction t using spl_induct with
  | h w p s ks ih =>
    intro way c l hr hb
    rw [right_mk] at hr
    obtain ⟨hs, hr⟩ := hr
    rw [wrS_mk] at hb
    rw [wrS_mk, encSpl_mk]
    have hsl := (itoa_dig hs).2.1
    rcases hr with ⟨h0, hk, hp⟩ | ⟨hw, -, hk2, hp, hkr⟩
    · subst h0 hk
      rw [if_pos rfl] at *
      have hpl := (itoa_dig hp).2.1
      have hip := itoa_ok W hN p (by unfold i64ok; omega)
      have hpn := itoa_ne hp
      clear ih
      rw [List.length_append] at hb
      refine acalls_of_vc (drawOk W) Tryd.func48 rfl (by decide) (by decide) rfl ?_
      (refine g0_ ?_; repeat ((first | refine n1_ fun b_ => ?_ | refine n2_ fun b_ => ?_ | refine Nat1.mk fun q_ hq_ => ?_ | refine em_ fun x_ hx_ => ?_ | refine Elem1.mk fun e_ he_ => ?_); refine g0_ ?_))
      refine (hip).use ?_; (refine g0_ ?_; repeat ((first | refine n1_ fun b_ => ?_ | refine n2_ fun b_ => ?_ | refine Nat1.mk fun q_ hq_ => ?_ | refine em_ fun x_ hx_ => ?_ | refine Elem1.mk fun e_ he_ => ?_); refine g0_ ?_))
      (refine g1_ ?_; repeat ((first | refine n1_ fun b_ => ?_ | refine n2_ fun b_ => ?_ | refine Nat1.mk fun q_ hq_ => ?_ | refine em_ fun x_ hx_ => ?_ | refine Elem1.mk fun e_ he_ => ?_); refine g1_ ?_))
      refine ACalls.lendEnd (r := _ :: []) (writeString_ok W b c l (Lib.itoa p) hpn (by omega) (by omega)) (.refl _) ?_
      rintro c' -
      rw [← List.append_assoc]
      by_cases h1 : s = 1
      · subst h1
        rw [show sizeS 1 = [] from rfl, List.append_nil] at *
        (refine g0_ ?_; repeat ((first | refine n1_ fun b_ => ?_ | refine n2_ fun b_ => ?_ | refine Nat1.mk fun q_ hq_ => ?_ | refine em_ fun x_ hx_ => ?_ | refine Elem1.mk fun e_ he_ => ?_); refine g0_ ?_))
        (refine g1_ ?_; repeat ((first | refine n1_ fun b_ => ?_ | refine n2_ fun b_ => ?_ | refine Nat1.mk fun q_ hq_ => ?_ | refine em_ fun x_ hx_ => ?_ | refine Elem1.mk fun e_ he_ => ?_); refine g1_ ?_))
        exact ⟨c', trivial, rfl, ⟨[_], List.perm_append_comm⟩⟩
      · have hsz : sizeS s = 42 :: Lib.itoa s := if_neg h1
        rw [hsz] at *
        have his := itoa_ok W hN s (by unfold i64ok; omega)
        (refine g0_ ?_; repeat ((first | refine n1_ fun b_ => ?_ | refine n2_ fun b_ => ?_ | refine Nat1.mk fun q_ hq_ => ?_ | refine em_ fun x_ hx_ => ?_ | refine Elem1.mk fun e_ he_ => ?_); refine g0_ ?_))
        (refine g1_ ?_; repeat ((first | refine n1_ fun b_ => ?_ | refine n2_ fun b_ => ?_ | refine Nat1.mk fun q_ hq_ => ?_ | refine em_ fun x_ hx_ => ?_ | refine Elem1.mk fun e_ he_ => ?_); refine g1_ ?_))
        refine (his).use ?_; (refine g0_ ?_; repeat ((first | refine n1_ fun b_ => ?_ | refine n2_ fun b_ => ?_ | refine Nat1.mk fun q_ hq_ => ?_ | refine em_ fun x_ hx_ => ?_ | refine Elem1.mk fun e_ he_ => ?_); refine g0_ ?_))
        (refine g1_ ?_; repeat ((first | refine n1_ fun b_ => ?_ | refine n2_ fun b_ => ?_ | refine Nat1.mk fun q_ hq_ => ?_ | refine em_ fun x_ hx_ => ?_ | refine Elem1.mk fun e_ he_ => ?_); refine g1_ ?_))
        refine ACalls.lendEnd (r := _ :: []) (writeString_ok W b c' (l ++ Lib.itoa p) (42 :: Lib.itoa s) (by simp) (by simp only [List.length_cons]; omega) (by simp only [List.length_append, List.length_cons, List.length_nil] at *; omega)) (.refl _) ?_
        rintro c2 -
        (refine g0_ ?_; repeat ((first | refine n1_ fun b_ => ?_ | refine n2_ fun b_ => ?_ | refine Nat1.mk fun q_ hq_ => ?_ | refine em_ fun x_ hx_ => ?_ | refine Elem1.mk fun e_ he_ => ?_); refine g0_ ?_))
        exact ⟨c2, trivial, rfl, ⟨[_], List.perm_append_comm⟩⟩
    · have hw0 : w ≠ 0 := by omega
      rw [if_neg hw0] at *
      subst hp
      have hbl : l.length + (wrSs ks).length + 3 + (sizeS s).length ≤ 70368744177664 + 2 := by
        simp only [List.length_append, List.length_cons, List.length_nil, List.length_drop] at hb
        omega
      have hkc := wrSs_cnt ks
      have hkm : (ks.map encSpl).length = ks.length := List.length_map _
      rcases hw with rfl | rfl
      · refine acalls_of_vc (drawOk W) Tryd.func48 rfl (by decide) (by decide) rfl ?_
        (refine g0_ ?_; repeat ((first | refine n1_ fun b_ => ?_ | refine n2_ fun b_ => ?_ | refine Nat1.mk fun q_ hq_ => ?_ | refine em_ fun x_ hx_ => ?_ | refine Elem1.mk fun e_ he_ => ?_); refine g0_ ?_))
        refine ACalls.lendEnd (r := _ :: []) (writeByte_ok W b c l 123 (by omega)) (.refl _) ?_
        rintro c' -
        (refine g0_ ?_; repeat ((first | refine n1_ fun b_ => ?_ | refine n2_ fun b_ => ?_ | refine Nat1.mk fun q_ hq_ => ?_ | refine em_ fun x_ hx_ => ?_ | refine Elem1.mk fun e_ he_ => ?_); refine g0_ ?_))
        obtain ⟨bX, rfl⟩ : ∃ z, z = b_ := ⟨_, rfl⟩
        refine' loopI (α := Nat × Nat × (List UInt8)) (fun (i, c, a) => [(26, .int .i64 i)]) [(0, _), (3, _), (4, _), (24, _), (25, _)] (fun (i, c, a) => [⟨bX, .row 4 [.agg [.int .i64 1, .int .i64 0, .int .i64 s, .sl 4 (ks.map encSpl)]] 0⟩] ++ bldS b c a) (fun (i, c, a) => i ≤ ks.length ∧ a = (l ++ [123]) ++ (wrSs (ks.take i)).drop 1) (fun (i, c, a) => ks.length - i) (0, c', l ++ [123]) ?_ ?_
        · exact ⟨Nat.zero_le _, by rw [List.take_zero]; simp [wrSs]⟩
        rintro ⟨i, c2, a⟩ ⟨hi, ha⟩
        by_cases hik : i = ks.length
        · subst hik
          rw [List.take_length] at ha
          have hw1 : 1 ≤ (wrSs ks).length := by
            cases ks with
            | nil => simp at hk2
            | cons y ys => rw [wrSs]; simp
          have hal : a.length ≤ l.length + (wrSs ks).length := by rw [ha]; simp only [List.length_append, List.length_cons, List.length_nil, List.length_drop]; omega
          (refine g0_ ?_; repeat ((first | refine n1_ fun b_ => ?_ | refine n2_ fun b_ => ?_ | refine Nat1.mk fun q_ hq_ => ?_ | refine em_ fun x_ hx_ => ?_ | refine Elem1.mk fun e_ he_ => ?_); refine g0_ ?_))
          (refine g1_ ?_; repeat ((first | refine n1_ fun b_ => ?_ | refine n2_ fun b_ => ?_ | refine Nat1.mk fun q_ hq_ => ?_ | refine em_ fun x_ hx_ => ?_ | refine Elem1.mk fun e_ he_ => ?_); refine g1_ ?_))
          refine ACalls.lendEnd (r := _ :: []) (writeByte_ok W b c2 a 125 (by omega)) (.refl _) ?_
          rintro c' -
          have e : l ++ ((opnS 1 :: ((wrSs ks).drop 1 ++ [clsS 1])) ++ sizeS s) = (a ++ [125]) ++ sizeS s := by
            rw [show opnS 1 = 123 from rfl, show clsS 1 = 125 from rfl, ha]
            simp
          rw [e]
          have hbl2 : (a ++ [125]).length + (sizeS s).length ≤ 70368744177664 := by rw [List.length_append, List.length_singleton]; omega
          generalize a ++ [125] = L at *
          clear hb hbl
          by_cases h1 : s = 1
          · subst h1
            rw [show sizeS 1 = [] from rfl, List.append_nil] at *
            (refine g0_ ?_; repeat ((first | refine n1_ fun b_ => ?_ | refine n2_ fun b_ => ?_ | refine Nat1.mk fun q_ hq_ => ?_ | refine em_ fun x_ hx_ => ?_ | refine Elem1.mk fun e_ he_ => ?_); refine g0_ ?_))
            (refine g1_ ?_; repeat ((first | refine n1_ fun b_ => ?_ | refine n2_ fun b_ => ?_ | refine Nat1.mk fun q_ hq_ => ?_ | refine em_ fun x_ hx_ => ?_ | refine Elem1.mk fun e_ he_ => ?_); refine g1_ ?_))
            exact ⟨c', trivial, rfl, ⟨[_], List.perm_append_comm⟩⟩
          · have hsz : sizeS s = 42 :: Lib.itoa s := if_neg h1
            rw [hsz] at *
            have his := itoa_ok W hN s (by unfold i64ok; omega)
            (refine g0_ ?_; repeat ((first | refine n1_ fun b_ => ?_ | refine n2_ fun b_ => ?_ | refine Nat1.mk fun q_ hq_ => ?_ | refine em_ fun x_ hx_ => ?_ | refine Elem1.mk fun e_ he_ => ?_); refine g0_ ?_))
            (refine g1_ ?_; repeat ((first | refine n1_ fun b_ => ?_ | refine n2_ fun b_ => ?_ | refine Nat1.mk fun q_ hq_ => ?_ | refine em_ fun x_ hx_ => ?_ | refine Elem1.mk fun e_ he_ => ?_); refine g1_ ?_))
            refine (his).use ?_; (refine g0_ ?_; repeat ((first | refine n1_ fun b_ => ?_ | refine n2_ fun b_ => ?_ | refine Nat1.mk fun q_ hq_ => ?_ | refine em_ fun x_ hx_ => ?_ | refine Elem1.mk fun e_ he_ => ?_); refine g0_ ?_))
            (refine g1_ ?_; repeat ((first | refine n1_ fun b_ => ?_ | refine n2_ fun b_ => ?_ | refine Nat1.mk fun q_ hq_ => ?_ | refine em_ fun x_ hx_ => ?_ | refine Elem1.mk fun e_ he_ => ?_); refine g1_ ?_))
            refine ACalls.lendEnd (r := _ :: []) (writeString_ok W b c' (L) (42 :: Lib.itoa s) (by simp) (by simp only [List.length_cons]; omega) (by simp only [List.length_append, List.length_cons, List.length_nil] at *; omega)) (.refl _) ?_
            rintro c2 -
            (refine g0_ ?_; repeat ((first | refine n1_ fun b_ => ?_ | refine n2_ fun b_ => ?_ | refine Nat1.mk fun q_ hq_ => ?_ | refine em_ fun x_ hx_ => ?_ | refine Elem1.mk fun e_ he_ => ?_); refine g0_ ?_))
            exact ⟨c2, trivial, rfl, ⟨[_], List.perm_append_comm⟩⟩
        · obtain ⟨k, hk⟩ : ∃ k, ks[i]? = some k := ⟨ks[i]'(by omega), List.getElem?_eq_getElem _⟩
          have hsn := wrSs_snoc hk
          have hle : (wrSs (ks.take (i + 1))).length ≤ (wrSs ks).length := by
            have := congrArg List.length (wrSs_app (ks.take (i + 1)) (ks.drop (i + 1)))
            rw [List.take_append_drop, List.length_append] at this
            omega
          rw [hsn, List.length_append, List.length_cons] at hle
          have hal : a.length ≤ l.length + 1 + (wrSs (ks.take i)).length := by rw [ha]; simp only [List.length_append, List.length_cons, List.length_nil, List.length_drop]; omega
          have hwk := fun c a h => ih k (List.mem_of_getElem? hk) 1 c a (hkr k (List.mem_of_getElem? hk)) h
          obtain ⟨kw, kp, kz, kk⟩ := k
          rw [encSpl] at hwk
          generalize hTX : wrS (.mk kw kp kz kk) = TX at *
          by_cases hi0 : i = 0
          · have ht0 : wrSs (ks.take i) = [] := by rw [hi0, List.take_zero]; rfl
            have hwk := hwk c2 a (by omega)
            (refine g0_ ?_; repeat ((first | refine n1_ fun b_ => ?_ | refine n2_ fun b_ => ?_ | refine Nat1.mk fun q_ hq_ => ?_ | refine em_ fun x_ hx_ => ?_ | refine Elem1.mk fun e_ he_ => ?_); refine g0_ ?_))
            (refine g1_ ?_; repeat ((first | refine n1_ fun b_ => ?_ | refine n2_ fun b_ => ?_ | refine Nat1.mk fun q_ hq_ => ?_ | refine em_ fun x_ hx_ => ?_ | refine Elem1.mk fun e_ he_ => ?_); refine g1_ ?_))
            refine ACalls.lendEnd (r := _ :: _ :: []) hwk (.refl _) ?_
            rintro c3 -
            (refine g0_ ?_; repeat ((first | refine n1_ fun b_ => ?_ | refine n2_ fun b_ => ?_ | refine Nat1.mk fun q_ hq_ => ?_ | refine em_ fun x_ hx_ => ?_ | refine Elem1.mk fun e_ he_ => ?_); refine g0_ ?_))
            refine nx_ (i + 1, c3, a ++ TX) ?_ ?_
            · exact ⟨by omega, by rw [hsn, ha, ht0]; simp⟩
            · ((try dsimp only); (try simp only [List.length_drop, List.length_take, List.length_append, List.length_cons, List.length_nil, List.length_map] at *); omega)
          · have hne : ∃ z Z, wrSs (ks.take i) = z :: Z := by
              obtain ⟨y, ys, hys⟩ : ∃ y ys, ks.take i = y :: ys := by
                cases hh : ks.take i with
                | nil => have := congrArg List.length hh; rw [List.length_take, List.length_nil] at this; omega
                | cons y ys => exact ⟨y, ys, rfl⟩
              exact ⟨44, wrS y ++ wrSs ys, by rw [hys, wrSs]; rfl⟩
            obtain ⟨z, Z, hz⟩ := hne
            have hwk := fun c => hwk c (a ++ [44]) (by rw [List.length_append, List.length_singleton]; omega)
            (refine g0_ ?_; repeat ((first | refine n1_ fun b_ => ?_ | refine n2_ fun b_ => ?_ | refine Nat1.mk fun q_ hq_ => ?_ | refine em_ fun x_ hx_ => ?_ | refine Elem1.mk fun e_ he_ => ?_); refine g0_ ?_))
            (refine g1_ ?_; repeat ((first | refine n1_ fun b_ => ?_ | refine n2_ fun b_ => ?_ | refine Nat1.mk fun q_ hq_ => ?_ | refine em_ fun x_ hx_ => ?_ | refine Elem1.mk fun e_ he_ => ?_); refine g1_ ?_))
            refine ACalls.lendEnd (r := _ :: _ :: []) (writeByte_ok W b c2 a 44 (by omega)) (.refl _) ?_
            rintro c3 -
            (refine g0_ ?_; repeat ((first | refine n1_ fun b_ => ?_ | refine n2_ fun b_ => ?_ | refine Nat1.mk fun q_ hq_ => ?_ | refine em_ fun x_ hx_ => ?_ | refine Elem1.mk fun e_ he_ => ?_); refine g0_ ?_))
            refine ACalls.lendEnd (r := _ :: _ :: []) (hwk c3) (.refl _) ?_
            rintro c4 -
            (refine g0_ ?_; repeat ((first | refine n1_ fun b_ => ?_ | refine n2_ fun b_ => ?_ | refine Nat1.mk fun q_ hq_ => ?_ | refine em_ fun x_ hx_ => ?_ | refine Elem1.mk fun e_ he_ => ?_); refine g0_ ?_))
            refine nx_ (i + 1, c4, a ++ [44] ++ TX) ?_ ?_
            · exact ⟨by omega, by rw [hsn, ha, hz]; simp⟩
            · ((try dsimp only); (try simp only [List.length_drop, List.length_take, List.length_append, List.length_cons, List.length_nil, List.length_map] at *); omega)
      · refine acalls_of_vc (drawOk W) Tryd.func48 rfl (by decide) (by decide) rfl ?_
        (refine g0_ ?_; repeat ((first | refine n1_ fun b_ => ?_ | refine n2_ fun b_ => ?_ | refine Nat1.mk fun q_ hq_ => ?_ | refine em_ fun x_ hx_ => ?_ | refine Elem1.mk fun e_ he_ => ?_); refine g0_ ?_))
        refine ACalls.lendEnd (r := _ :: []) (writeByte_ok W b c l 91 (by omega)) (.refl _) ?_
        rintro c' -
        (refine g0_ ?_; repeat ((first | refine n1_ fun b_ => ?_ | refine n2_ fun b_ => ?_ | refine Nat1.mk fun q_ hq_ => ?_ | refine em_ fun x_ hx_ => ?_ | refine Elem1.mk fun e_ he_ => ?_); refine g0_ ?_))
        obtain ⟨bX, rfl⟩ : ∃ z, z = b_ := ⟨_, rfl⟩
        refine' loopI (α := Nat × Nat × (List UInt8)) (fun (i, c, a) => [(26, .int .i64 i)]) [(0, _), (3, _), (4, _), (24, _), (25, _)] (fun (i, c, a) => [⟨bX, .row 4 [.agg [.int .i64 2, .int .i64 0, .int .i64 s, .sl 4 (ks.map encSpl)]] 0⟩] ++ bldS b c a) (fun (i, c, a) => i ≤ ks.length ∧ a = (l ++ [91]) ++ (wrSs (ks.take i)).drop 1) (fun (i, c, a) => ks.length - i) (0, c', l ++ [91]) ?_ ?_
        · exact ⟨Nat.zero_le _, by rw [List.take_zero]; simp [wrSs]⟩
        rintro ⟨i, c2, a⟩ ⟨hi, ha⟩
        by_cases hik : i = ks.length
        · subst hik
          rw [List.take_length] at ha
          have hw1 : 1 ≤ (wrSs ks).length := by
            cases ks with
            | nil => simp at hk2
            | cons y ys => rw [wrSs]; simp
          have hal : a.length ≤ l.length + (wrSs ks).length := by rw [ha]; simp only [List.length_append, List.length_cons, List.length_nil, List.length_drop]; omega
          (refine g0_ ?_; repeat ((first | refine n1_ fun b_ => ?_ | refine n2_ fun b_ => ?_ | refine Nat1.mk fun q_ hq_ => ?_ | refine em_ fun x_ hx_ => ?_ | refine Elem1.mk fun e_ he_ => ?_); refine g0_ ?_))
          (refine g1_ ?_; repeat ((first | refine n1_ fun b_ => ?_ | refine n2_ fun b_ => ?_ | refine Nat1.mk fun q_ hq_ => ?_ | refine em_ fun x_ hx_ => ?_ | refine Elem1.mk fun e_ he_ => ?_); refine g1_ ?_))
          refine ACalls.lendEnd (r := _ :: []) (writeByte_ok W b c2 a 93 (by omega)) (.refl _) ?_
          rintro c' -
          have e : l ++ ((opnS 2 :: ((wrSs ks).drop 1 ++ [clsS 2])) ++ sizeS s) = (a ++ [93]) ++ sizeS s := by
            rw [show opnS 2 = 91 from rfl, show clsS 2 = 93 from rfl, ha]
            simp
          rw [e]
          have hbl2 : (a ++ [93]).length + (sizeS s).length ≤ 70368744177664 := by rw [List.length_append, List.length_singleton]; omega
          generalize a ++ [93] = L at *
          clear hb hbl
          by_cases h1 : s = 1
          · subst h1
            rw [show sizeS 1 = [] from rfl, List.append_nil] at *
            (refine g0_ ?_; repeat ((first | refine n1_ fun b_ => ?_ | refine n2_ fun b_ => ?_ | refine Nat1.mk fun q_ hq_ => ?_ | refine em_ fun x_ hx_ => ?_ | refine Elem1.mk fun e_ he_ => ?_); refine g0_ ?_))
            (refine g1_ ?_; repeat ((first | refine n1_ fun b_ => ?_ | refine n2_ fun b_ => ?_ | refine Nat1.mk fun q_ hq_ => ?_ | refine em_ fun x_ hx_ => ?_ | refine Elem1.mk fun e_ he_ => ?_); refine g1_ ?_))
            exact ⟨c', trivial, rfl, ⟨[_], List.perm_append_comm⟩⟩
          · have hsz : sizeS s = 42 :: Lib.itoa s := if_neg h1
            rw [hsz] at *
            have his := itoa_ok W hN s (by unfold i64ok; omega)
            (refine g0_ ?_; repeat ((first | refine n1_ fun b_ => ?_ | refine n2_ fun b_ => ?_ | refine Nat1.mk fun q_ hq_ => ?_ | refine em_ fun x_ hx_ => ?_ | refine Elem1.mk fun e_ he_ => ?_); refine g0_ ?_))
            (refine g1_ ?_; repeat ((first | refine n1_ fun b_ => ?_ | refine n2_ fun b_ => ?_ | refine Nat1.mk fun q_ hq_ => ?_ | refine em_ fun x_ hx_ => ?_ | refine Elem1.mk fun e_ he_ => ?_); refine g1_ ?_))
            refine (his).use ?_; (refine g0_ ?_; repeat ((first | refine n1_ fun b_ => ?_ | refine n2_ fun b_ => ?_ | refine Nat1.mk fun q_ hq_ => ?_ | refine em_ fun x_ hx_ => ?_ | refine Elem1.mk fun e_ he_ => ?_); refine g0_ ?_))
            (refine g1_ ?_; repeat ((first | refine n1_ fun b_ => ?_ | refine n2_ fun b_ => ?_ | refine Nat1.mk fun q_ hq_ => ?_ | refine em_ fun x_ hx_ => ?_ | refine Elem1.mk fun e_ he_ => ?_); refine g1_ ?_))
            refine ACalls.lendEnd (r := _ :: []) (writeString_ok W b c' (L) (42 :: Lib.itoa s) (by simp) (by simp only [List.length_cons]; omega) (by simp only [List.length_append, List.length_cons, List.length_nil] at *; omega)) (.refl _) ?_
            rintro c2 -
            (refine g0_ ?_; repeat ((first | refine n1_ fun b_ => ?_ | refine n2_ fun b_ => ?_ | refine Nat1.mk fun q_ hq_ => ?_ | refine em_ fun x_ hx_ => ?_ | refine Elem1.mk fun e_ he_ => ?_); refine g0_ ?_))
            exact ⟨c2, trivial, rfl, ⟨[_], List.perm_append_comm⟩⟩
        · obtain ⟨k, hk⟩ : ∃ k, ks[i]? = some k := ⟨ks[i]'(by omega), List.getElem?_eq_getElem _⟩
          have hsn := wrSs_snoc hk
          have hle : (wrSs (ks.take (i + 1))).length ≤ (wrSs ks).length := by
            have := congrArg List.length (wrSs_app (ks.take (i + 1)) (ks.drop (i + 1)))
            rw [List.take_append_drop, List.length_append] at this
            omega
          rw [hsn, List.length_append, List.length_cons] at hle
          have hal : a.length ≤ l.length + 1 + (wrSs (ks.take i)).length := by rw [ha]; simp only [List.length_append, List.length_cons, List.length_nil, List.length_drop]; omega
          have hwk := fun c a h => ih k (List.mem_of_getElem? hk) 2 c a (hkr k (List.mem_of_getElem? hk)) h
          obtain ⟨kw, kp, kz, kk⟩ := k
          rw [encSpl] at hwk
          generalize hTX : wrS (.mk kw kp kz kk) = TX at *
          by_cases hi0 : i = 0
          · have ht0 : wrSs (ks.take i) = [] := by rw [hi0, List.take_zero]; rfl
            have hwk := hwk c2 a (by omega)
            (refine g0_ ?_; repeat ((first | refine n1_ fun b_ => ?_ | refine n2_ fun b_ => ?_ | refine Nat1.mk fun q_ hq_ => ?_ | refine em_ fun x_ hx_ => ?_ | refine Elem1.mk fun e_ he_ => ?_); refine g0_ ?_))
            (refine g1_ ?_; repeat ((first | refine n1_ fun b_ => ?_ | refine n2_ fun b_ => ?_ | refine Nat1.mk fun q_ hq_ => ?_ | refine em_ fun x_ hx_ => ?_ | refine Elem1.mk fun e_ he_ => ?_); refine g1_ ?_))
            refine ACalls.lendEnd (r := _ :: _ :: []) hwk (.refl _) ?_
            rintro c3 -
            (refine g0_ ?_; repeat ((first | refine n1_ fun b_ => ?_ | refine n2_ fun b_ => ?_ | refine Nat1.mk fun q_ hq_ => ?_ | refine em_ fun x_ hx_ => ?_ | refine Elem1.mk fun e_ he_ => ?_); refine g0_ ?_))
            refine nx_ (i + 1, c3, a ++ TX) ?_ ?_
            · exact ⟨by omega, by rw [hsn, ha, ht0]; simp⟩
            · ((try dsimp only); (try simp only [List.length_drop, List.length_take, List.length_append, List.length_cons, List.length_nil, List.length_map] at *); omega)
          · have hne : ∃ z Z, wrSs (ks.take i) = z :: Z := by
              obtain ⟨y, ys, hys⟩ : ∃ y ys, ks.take i = y :: ys := by
                cases hh : ks.take i with
                | nil => have := congrArg List.length hh; rw [List.length_take, List.length_nil] at this; omega
                | cons y ys => exact ⟨y, ys, rfl⟩
              exact ⟨44, wrS y ++ wrSs ys, by rw [hys, wrSs]; rfl⟩
            obtain ⟨z, Z, hz⟩ := hne
            have hwk := fun c => hwk c (a ++ [44]) (by rw [List.length_append, List.length_singleton]; omega)
            (refine g0_ ?_; repeat ((first | refine n1_ fun b_ => ?_ | refine n2_ fun b_ => ?_ | refine Nat1.mk fun q_ hq_ => ?_ | refine em_ fun x_ hx_ => ?_ | refine Elem1.mk fun e_ he_ => ?_); refine g0_ ?_))
            (refine g1_ ?_; repeat ((first | refine n1_ fun b_ => ?_ | refine n2_ fun b_ => ?_ | refine Nat1.mk fun q_ hq_ => ?_ | refine em_ fun x_ hx_ => ?_ | refine Elem1.mk fun e_ he_ => ?_); refine g1_ ?_))
            refine ACalls.lendEnd (r := _ :: _ :: []) (writeByte_ok W b c2 a 44 (by omega)) (.refl _) ?_
            rintro c3 -
            (refine g0_ ?_; repeat ((first | refine n1_ fun b_ => ?_ | refine n2_ fun b_ => ?_ | refine Nat1.mk fun q_ hq_ => ?_ | refine em_ fun x_ hx_ => ?_ | refine Elem1.mk fun e_ he_ => ?_); refine g0_ ?_))
            refine ACalls.lendEnd (r := _ :: _ :: []) (hwk c3) (.refl _) ?_
            rintro c4 -
            (refine g0_ ?_; repeat ((first | refine n1_ fun b_ => ?_ | refine n2_ fun b_ => ?_ | refine Nat1.mk fun q_ hq_ => ?_ | refine em_ fun x_ hx_ => ?_ | refine Elem1.mk fun e_ he_ => ?_); refine g0_ ?_))
            refine nx_ (i + 1, c4, a ++ [44] ++ TX) ?_ ?_
            · exact ⟨by omega, by rw [hsn, ha, hz]; simp⟩
            · ((try dsimp only); (try simp only [List.length_drop, List.length_take, List.length_append, List.length_cons, List.length_nil, List.length_map] at *); omega)
/-- What Print gives. -/
def printR (t : Spl) : List UInt8 × Int := if (visS t 0 (0, [])).1 ≠ 0 then ([], (visS t 0 (0, [])).1) else (wrS t, 0)
theorem printP_ok (hN : Nums W) (t : Spl) (ht : t.ok) (h0 : (visS t 0 (0, [])).1 = 0) : Pure Tryd.prog W 10 [encSpl t] (.tup [.str (wrS t), .int .i64 0]) := by
  have hc := checkS_ok W t ht
  obtain ⟨hr, -, h12, -⟩ := vis_right h0
  have hl := wrS_len t 0 hr
  have hw := fun b => writeS_ok W hN b t 0 0 [] hr (by simp only [List.length_nil]; omega)
  rw [h0] at hc
  clear h0 hr ht
  simp only [List.nil_append] at hw
  generalize wrS t = S at *
  obtain ⟨w, p, s, ks⟩ := t
  rw [encSpl_mk] at *
  refine Pure.of (acalls_of_vc (drawOk W) Tryd.func10 rfl (by decide) (by decide) rfl ?_)
  (refine g0_ ?_; repeat ((first | refine n1_ fun b_ => ?_ | refine n2_ fun b_ => ?_ | refine Nat1.mk fun q_ hq_ => ?_ | refine em_ fun x_ hx_ => ?_ | refine Elem1.mk fun e_ he_ => ?_); refine g0_ ?_))
  refine (hc).use ?_; (refine g0_ ?_; repeat ((first | refine n1_ fun b_ => ?_ | refine n2_ fun b_ => ?_ | refine Nat1.mk fun q_ hq_ => ?_ | refine em_ fun x_ hx_ => ?_ | refine Elem1.mk fun e_ he_ => ?_); refine g0_ ?_))
  (refine g0_ ?_; repeat ((first | refine n1_ fun b_ => ?_ | refine n2_ fun b_ => ?_ | refine Nat1.mk fun q_ hq_ => ?_ | refine em_ fun x_ hx_ => ?_ | refine Elem1.mk fun e_ he_ => ?_); refine g0_ ?_))
  refine ACalls.lendEnd (r := _ :: []) (hw b_) (.swap _ _ _) ?_
  rintro c -
  (refine g0_ ?_; repeat ((first | refine n1_ fun b_ => ?_ | refine n2_ fun b_ => ?_ | refine Nat1.mk fun q_ hq_ => ?_ | refine em_ fun x_ hx_ => ?_ | refine Elem1.mk fun e_ he_ => ?_); refine g0_ ?_))
  refine ACalls.lendEnd (r := _ :: []) (string_ok W b_ c S (by omega)) (.refl _) ?_
  rintro _ -
  (refine g0_ ?_; repeat ((first | refine n1_ fun b_ => ?_ | refine n2_ fun b_ => ?_ | refine Nat1.mk fun q_ hq_ => ?_ | refine em_ fun x_ hx_ => ?_ | refine Elem1.mk fun e_ he_ => ?_); refine g0_ ?_))
  exact .refl _
end Go.Eng.YtmodblkagimhlaaDoor
end
