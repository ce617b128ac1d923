/- Texts put together: Spl38, Spl40, Spl41, Spl39. -/
import Derived.Test.YtimpfhokacfobaaDoorMSB
import Derived.Lib.ItoaLen
import Derived.Test.YtimpfhokacfobaaDoorMSC
import Derived.Test.YtimpfhokacfobaaDoorMSF
import Derived.Test.YtimpfhokacfobaaDoorMBN1
import Derived.Test.YtimpfhokacfobaaDoorMS1
/- Splits: how a split is printed (plain). -/
section
namespace Go.Eng.YtimpfhokacfobaaDoor
open Go Go.Eng Go.Proofs
set_option linter.unusedSimpArgs false
set_option maxRecDepth 100000
set_option linter.unusedVariables false
set_option maxHeartbeats 4000000
def sizeS (s : Int) : List UInt8 := if s = 1 then [] else 42 :: Lib.itoa s
def opnS (w : Int) : UInt8 := if w = 1 then 123 else 91
def clsS (w : Int) : UInt8 := if w = 1 then 125 else 93
mutual
/-- A split, as it is printed. -/
def wrS : Spl → List UInt8
  | .mk w p s ks => (if w = 0 then Lib.itoa p else opnS w :: ((wrSs ks).drop 1 ++ [clsS w])) ++ sizeS s
/-- Each part, a comma ahead. -/
def wrSs : List Spl → List UInt8
  | [] => []
  | k :: ks => 44 :: wrS k ++ wrSs ks
end
theorem wrSs_eq : ∀ ks : List Spl, wrSs ks = ks.flatMap fun k => 44 :: wrS k
  | [] => rfl
  | k :: ks => by rw [wrSs, wrSs_eq ks]; rfl
theorem wrS_mk (w p s : Int) (ks : List Spl) : wrS (.mk w p s ks) = (if w = 0 then Lib.itoa p else opnS w :: ((wrSs ks).drop 1 ++ [clsS w])) ++ sizeS s := by rw [wrS]
theorem wrSs_app (A B : List Spl) : wrSs (A ++ B) = wrSs A ++ wrSs B := by rw [wrSs_eq, wrSs_eq, wrSs_eq, List.flatMap_append]
theorem wrSs_snoc {ks : List Spl} {i : Nat} {k : Spl} (h : ks[i]? = some k) : wrSs (ks.take (i + 1)) = wrSs (ks.take i) ++ 44 :: wrS k := by
  rw [take_snoc_of h, wrSs_app]
  simp [wrSs]
def digF (n : Nat) : Bool := (Lib.itoa (n + 1 : Nat)).all (fun c => decide (48 ≤ c.toNat ∧ c.toNat ≤ 57)) && decide ((Lib.itoa (n + 1 : Nat)).length ≤ 4) && decide ((Lib.itoa (n + 1 : Nat)).foldl (fun a c => a * 10 + (c.toNat - 48)) 0 = n + 1) && decide ((Lib.itoa (n + 1 : Nat)).headD 48 ≠ 48)
theorem dig_all : (List.range 9999).all digF = true := by decide +kernel
theorem itoa_dig {p : Int} (h : 1 ≤ p ∧ p ≤ 9999) : (∀ c ∈ Lib.itoa p, 48 ≤ c.toNat ∧ c.toNat ≤ 57) ∧ (Lib.itoa p).length ≤ 4 ∧ (((Lib.itoa p).foldl (fun a c => a * 10 + (c.toNat - 48)) 0 : Nat) : Int) = p ∧ (Lib.itoa p).headD 48 ≠ 48 := by
  obtain ⟨n, rfl⟩ : ∃ n : Nat, p = ((n + 1 : Nat) : Int) := ⟨(p - 1).toNat, by omega⟩
  have := List.all_eq_true.1 dig_all n (List.mem_range.2 (by omega))
  unfold digF at this
  simp only [Bool.and_eq_true, decide_eq_true_eq, List.all_eq_true] at this
  obtain ⟨⟨⟨a1, a2⟩, a3⟩, a4⟩ := this
  exact ⟨a1, a2, by rw [a3], a4⟩
theorem itoa_ne {p : Int} (h : 1 ≤ p ∧ p ≤ 9999) : Lib.itoa p ≠ [] := fun e => by
  have := (itoa_dig h).2.2.2
  rw [e] at this
  exact this rfl
theorem size_len {s : Int} (h : 1 ≤ s ∧ s ≤ 9999) : (sizeS s).length ≤ 5 := by
  unfold sizeS
  have := (itoa_dig h).2.1
  split
  · exact Nat.zero_le _
  · rw [List.length_cons]; omega
/-- How long a right split's text is. -/
theorem wrS_len (t : Spl) : ∀ way, t.right way → (wrS t).length + 10 ≤ 20 * (panesT t).length := by
  induction t using spl_induct with
  | h w p s ks ih =>
    intro way hr
    rw [right_mk] at hr
    rw [wrS_mk, panesT_mk]
    have h5 := size_len hr.1
    rcases hr.2 with ⟨h0, hk, h1⟩ | ⟨hw, -, hk2, hp, hkr⟩
    · rw [if_pos h0, if_pos h0]
      have := (itoa_dig h1).2.1
      rw [List.length_append, List.length_singleton]
      omega
    · rw [if_neg (by omega), if_neg (by omega)]
      have key : ∀ l : List Spl, (∀ k ∈ l, k ∈ ks) → (wrSs l).length + 9 * l.length ≤ 20 * (l.flatMap panesT).length := by
        intro l
        induction l with
        | nil => intro _; simp [wrSs]
        | cons k l ihl =>
          intro hl
          have h1 := ihl fun x hx => hl x (List.mem_cons_of_mem _ hx)
          have h2 := ih k (hl k (by simp)) w (hkr k (hl k (by simp)))
          rw [wrSs, List.flatMap_cons]
          simp only [List.length_append, List.length_cons]
          omega
      have := key ks fun _ h => h
      simp only [List.length_append, List.length_cons, List.length_nil, List.length_drop]
      omega
end Go.Eng.YtimpfhokacfobaaDoor
end

/- Splits: any printed split is read: numbers, parts (b_ x_ q_ e_). -/
section
namespace Go.Eng.YtimpfhokacfobaaDoor
open Go Go.Eng Go.Proofs Go.RowKit
variable (W : World)
set_option linter.unusedSimpArgs false
set_option maxRecDepth 100000
set_option linter.unusedVariables false
set_option maxHeartbeats 4000000
theorem nextN_drop (s : List UInt8) (i j : Nat) : nextN s (i + j) = (((s.drop i)[j]?).map UInt8.toNat).getD 0 := by
  rw [nextN, List.getElem?_drop]
/-- What may stand behind a number. -/
def stopD (r : List UInt8) : Prop := ∀ c, r[0]? = some c → c.toNat < 48 ∨ 57 < c.toNat
/-- What may stand behind a split. -/
def stopB (r : List UInt8) : Prop := stopD r ∧ r[0]? ≠ some 42
theorem next_stop {s r : List UInt8} {i : Nat} (h : s.drop i = r) (hr : stopD r) : nextN s i < 48 ∨ 57 < nextN s i := by
  have := nextN_drop s i 0
  rw [Nat.add_zero, h] at this
  rw [this]
  cases hc : r[0]? with
  | none => exact .inl (by decide)
  | some c => exact hr c hc
theorem next_stopB {s r : List UInt8} {i : Nat} (h : s.drop i = r) (hr : r[0]? ≠ some 42) : nextN s i ≠ 42 := by
  have := nextN_drop s i 0
  rw [Nat.add_zero, h] at this
  rw [this]
  cases hc : r[0]? with
  | none => decide
  | some c =>
    intro e
    have : c = 42 := UInt8.toNat_inj.1 e
    subst this
    exact hr hc
theorem next_is {s r : List UInt8} {i : Nat} {c : UInt8} (h : s.drop i = c :: r) : nextN s i = c.toNat := by
  have := nextN_drop s i 0
  rw [Nat.add_zero, h] at this
  exact this
theorem drop_more {s a r : List UInt8} {i : Nat} (h : s.drop i = a ++ r) : s.drop (i + a.length) = r := by
  rw [← List.drop_drop, h, List.drop_left]
theorem drop_lt {s r : List UInt8} {i : Nat} {c : UInt8} (h : s.drop i = c :: r) : i < s.length := by
  have := congrArg List.length h
  rw [List.length_drop, List.length_cons] at this
  omega
def stD (a : Nat) (c : UInt8) : Nat := a * 10 + (c.toNat - 48)
theorem stD_le : ∀ (l : List UInt8) (a : Nat), a ≤ l.foldl stD a
  | [], a => Nat.le_refl _
  | c :: l, a => by
    rw [List.foldl_cons]
    exact Nat.le_trans (by unfold stD; omega) (stD_le l _)
theorem stD_take (l : List UInt8) (j : Nat) : (l.take j).foldl stD 0 ≤ l.foldl stD 0 := by
  conv => rhs; rw [← List.take_append_drop j l, List.foldl_append]
  exact stD_le _ _
theorem numberG_ok (b : Nat) (s : List UInt8) (i : Nat) (n : Int) (r : List UInt8) (hs : s.length ≤ 4000) (hn1 : 1 ≤ n ∧ n ≤ 9999) (hd : s.drop i = Lib.itoa n ++ r) (hr : stopD r) :
    ACalls Tryd.prog W 46 [.bref b 0] [rdM b s i] (Gives (fun _ : Unit => .int .i64 n) (fun _ => [rdM b s (i + (Lib.itoa n).length)]) (fun _ => True)) := by
  obtain ⟨d1, d2, d3, d4⟩ := itoa_dig hn1
  have hne := itoa_ne hn1
  have hst := next_stop (drop_more hd) hr
  have hnx : ∀ j, nextN s (i + j) = (((Lib.itoa n ++ r)[j]?).map UInt8.toNat).getD 0 := fun j => by rw [nextN_drop, hd]
  have hlen : i + (Lib.itoa n).length ≤ s.length := by
    have := congrArg List.length hd
    rw [List.length_drop, List.length_append] at this
    have : 0 < (Lib.itoa n).length := List.length_pos_iff.2 hne
    omega
  have hn := fun j (hj : j ≤ s.length) => nextB_ok W b s j hj hs
  change ((((Lib.itoa n).foldl stD 0 : Nat) : Int)) = n at d3
  have htk := fun j => stD_take (Lib.itoa n) j
  generalize Lib.itoa n = ds at *
  have hL : 1 ≤ ds.length := List.length_pos_iff.2 hne
  obtain ⟨c0, hc0, hc48⟩ : ∃ c0, s[i]? = some c0 ∧ c0.toNat ≠ 48 := by
    cases ds with
    | nil => simp at hL
    | cons c l =>
      refine ⟨c, ?_, fun e => d4 (by
        have : c = 48 := UInt8.toNat_inj.1 e
        rw [this]; rfl)⟩
      have : (s.drop i)[0]? = some c := by rw [hd]; rfl
      rwa [List.getElem?_drop, Nat.add_zero] at this
  simp only [rdM] at hn ⊢
  refine acalls_of_vc (drawOk W) Tryd.func46 rfl (by decide) (by decide) rfl ?_
  (refine g0_ ?_; repeat ((first | refine n1_ fun b_ => ?_ | refine n2_ fun b_ => ?_ | refine Nat1.mk fun q_ hq_ => ?_ | refine em_ fun x_ hx_ => ?_ | refine Elem1.mk fun e_ he_ => ?_); refine g0_ ?_))
  refine ACalls.lendL (hn i (by omega)) (r := []) (.refl _) ?_
  rintro _ -
  (refine g0_ ?_; repeat ((first | refine n1_ fun b_ => ?_ | refine n2_ fun b_ => ?_ | refine Nat1.mk fun q_ hq_ => ?_ | refine em_ fun x_ hx_ => ?_ | refine Elem1.mk fun e_ he_ => ?_); refine g0_ ?_))
  refine' loopI (α := Nat × Nat) (fun (j, v) => [(5, .int .u8 (nextN s (i + j))), (4, .int .i64 v)]) [(0, _), (3, _)] (fun (j, v) => [⟨b, .row 2 [.agg [.str s, .int .i64 ((i + j : Nat) : Int)]] 0⟩]) (fun (j, v) => j ≤ ds.length ∧ v = (ds.take j).foldl stD 0) (fun (j, v) => ds.length - j) (0, 0) ?_ ?_
  · exact ⟨Nat.zero_le _, by simp⟩
  rintro ⟨j, v⟩ ⟨hj, hv⟩
  by_cases hjL : j = ds.length
  · subst hjL
    rw [List.take_length] at hv
    rw [← hv] at d3
    subst d3
    (refine g0_ ?_; repeat ((first | refine n1_ fun b_ => ?_ | refine n2_ fun b_ => ?_ | refine Nat1.mk fun q_ hq_ => ?_ | refine em_ fun x_ hx_ => ?_ | refine Elem1.mk fun e_ he_ => ?_); refine g0_ ?_))
    (refine g1_ ?_; repeat ((first | refine n1_ fun b_ => ?_ | refine n2_ fun b_ => ?_ | refine Nat1.mk fun q_ hq_ => ?_ | refine em_ fun x_ hx_ => ?_ | refine Elem1.mk fun e_ he_ => ?_); refine g1_ ?_))
    rw [hc0] at he_
    obtain rfl := Option.some.inj he_
    (refine g1_ ?_; repeat ((first | refine n1_ fun b_ => ?_ | refine n2_ fun b_ => ?_ | refine Nat1.mk fun q_ hq_ => ?_ | refine em_ fun x_ hx_ => ?_ | refine Elem1.mk fun e_ he_ => ?_); refine g1_ ?_))
    exact ⟨(), trivial, rfl, by (first | exact ⟨_, .refl _⟩ | exact wkMem.rfl' | exact ⟨_, .swap _ _ _⟩ | (repeat (first | exact wkMem.nil _ | exact wkMem.rfl' | exact wk_snoc _ _ _ | exact wk_fam (by assumption) _ _ _ | exact wk_famN (by assumption) _ _ _ | (apply wkMem.cons; (case' hl => (repeat (first | exact .here _ _ _ | apply Look.there)))) | apply wkMem.skip)))⟩
  · obtain ⟨c, hc⟩ : ∃ c, ds[j]? = some c := ⟨ds[j]'(by omega), List.getElem?_eq_getElem _⟩
    have hcr := d1 c (List.mem_of_getElem? hc)
    have hcv : nextN s (i + j) = c.toNat := by rw [hnx, List.getElem?_append_left (by omega), hc]; rfl
    have hv2 := htk j
    have hv' : v * 10 + (c.toNat - 48) = (ds.take (j + 1)).foldl stD 0 := by
      rw [take_snoc_of hc, List.foldl_append, ← hv]
      rfl
    have hx := nextN_le s (i + (j + 1))
    have hn' := hn (i + (j + 1)) (by omega)
    rw [← hv] at hv2
    have hvn : v ≤ 9999 := by omega
    clear hv hnx htk hn
    rw [← hcv] at hv' hcr
    (refine g0_ ?_; repeat ((first | refine n1_ fun b_ => ?_ | refine n2_ fun b_ => ?_ | refine Nat1.mk fun q_ hq_ => ?_ | refine em_ fun x_ hx_ => ?_ | refine Elem1.mk fun e_ he_ => ?_); refine g0_ ?_))
    (refine g1_ ?_; repeat ((first | refine n1_ fun b_ => ?_ | refine n2_ fun b_ => ?_ | refine Nat1.mk fun q_ hq_ => ?_ | refine em_ fun x_ hx_ => ?_ | refine Elem1.mk fun e_ he_ => ?_); refine g1_ ?_))
    refine ACalls.lendL hn' (r := []) (.refl _) ?_
    rintro _ -
    (refine g0_ ?_; repeat ((first | refine n1_ fun b_ => ?_ | refine n2_ fun b_ => ?_ | refine Nat1.mk fun q_ hq_ => ?_ | refine em_ fun x_ hx_ => ?_ | refine Elem1.mk fun e_ he_ => ?_); refine g0_ ?_))
    refine nx_ (j + 1, v * 10 + (nextN s (i + j) - 48)) ?_ ?_
    · exact ⟨by omega, hv'⟩
    · ((try dsimp only); (try simp only [List.length_drop, List.length_take, List.length_append, List.length_cons, List.length_nil, List.length_map] at *); omega)
end Go.Eng.YtimpfhokacfobaaDoor
end

/- Splits: any printed split is read (b_ x_ q_ e_). -/
section
namespace Go.Eng.YtimpfhokacfobaaDoor
open Go Go.Eng Go.Proofs Go.RowKit
variable (W : World)
set_option linter.unusedSimpArgs false
set_option maxRecDepth 100000
set_option linter.unusedVariables false
set_option maxHeartbeats 4000000
theorem stopD_size {z : Int} (hz : 1 ≤ z ∧ z ≤ 9999) {r : List UInt8} (hr : stopD r) : stopD (sizeS z ++ r) := by
  unfold sizeS
  split
  · exact hr
  · intro c hc
    have : (42 : UInt8) = c := by simpa using hc
    subst this
    decide
theorem stop_comma (L : List UInt8) : stopB (44 :: L) := by
  refine ⟨fun c hc => ?_, by simp⟩
  have : (44 : UInt8) = c := by simpa using hc
  subst this
  decide
theorem stop_close {w : Int} (L : List UInt8) : stopB (clsS w :: L) := by
  unfold clsS
  split
  all_goals
    refine ⟨fun c hc => ?_, by simp⟩
    simp only [List.getElem?_cons_zero, Option.some.injEq] at hc
    subst hc
    decide
theorem sib_panes {ks : List Spl} {w : Int} {k : Spl} (h : ∀ k ∈ ks, k.right w) (h2 : 2 ≤ ks.length) (hk : k ∈ ks) : (panesT k).length + 1 ≤ (ks.flatMap panesT).length := by
  obtain ⟨A, B, rfl⟩ := List.append_of_mem hk
  rw [List.flatMap_append, List.flatMap_cons]
  simp only [List.length_append, List.length_cons] at h2 ⊢
  have hA := kids_panes (ks := A) (w := w) fun x hx => h x (by simp [hx])
  have hB := kids_panes (ks := B) (w := w) fun x hx => h x (by simp [hx])
  omega
theorem pos_kid {s r X Y : List UInt8} {i0 : Nat} {o c : UInt8} (h : s.drop i0 = o :: ((X ++ 44 :: Y).drop 1 ++ [c]) ++ r) : s.drop (i0 + X.length + 1) = Y ++ c :: r := by
  have e : i0 + X.length + 1 = i0 + (1 + X.length) := by omega
  rw [e, ← List.drop_drop, h, ← List.drop_drop]
  simp only [List.cons_append, List.drop_succ_cons, List.drop_zero, List.append_assoc, List.singleton_append]
  rw [List.drop_append_of_le_length (by rw [List.length_drop, List.length_append, List.length_cons]; omega), List.drop_drop, show 1 + X.length = X.length + 1 from Nat.add_comm _ _, ← List.drop_drop, List.drop_left]
  rfl
theorem frz_own4 {σ : Mem} {w z : Int} {v : PV} {ks : List Spl} (h : Frz σ v (.sl 4 (ks.map encSpl))) : Frz σ (.agg [.int .i64 w, .int .i64 0, .int .i64 z, v]) (.agg [.int .i64 w, .int .i64 0, .int .i64 z, .sl 4 (ks.map encSpl)]) := by
  refine .agg _ _ rfl fun j hj => ?_
  match j, hj with
  | 0, _ => exact .refl _
  | 1, _ => exact .refl _
  | 2, _ => exact .refl _
  | 3, _ => exact h
theorem frz_leafZ {σ : Mem} (p z : Int) : Frz σ (.agg [.int .i64 0, .int .i64 p, .int .i64 z, .nils]) (.agg [.int .i64 0, .int .i64 p, .int .i64 z, .sl 4 (([] : List Spl).map encSpl)]) := by
  refine .agg _ _ rfl fun j hj => ?_
  match j, hj with
  | 0, _ => exact .refl _
  | 1, _ => exact .refl _
  | 2, _ => exact .refl _
  | 3, _ => exact .nils 4
theorem frz_last {σ r : Mem} {b m : Nat} {L : List PV} {ks : List Spl} {w z : Int} (hL : L = ks.map encSpl) (hl : Look σ b (.row 4 L 0) r) (hm : m = L.length) : Frz σ (.agg [.int .i64 w, .int .i64 0, .int .i64 z, .rsl b 4 0 m]) (.agg [.int .i64 w, .int .i64 0, .int .i64 z, .sl 4 (ks.map encSpl)]) := by
  subst hL
  exact frz_own4 (frz_row hl m hm)
theorem splitG_ok (b : Nat) (s : List UInt8) (hs : s.length ≤ 4000) (t : Spl) : ∀ (way : Int) (i : Nat) (d : Int) (r : List UInt8), t.right way → 1 ≤ d → d + (panesT t).length ≤ 13 → s.drop i = wrS t ++ r → stopB r →
    ACalls Tryd.prog W 26 [.bref b 0, .int .i64 d] [rdM b s i] (SpOut b s (i + (wrS t).length) t) := by
  induction t using spl_induct with
  | h w p z ks ih =>
    intro way i d r hrt hd1 hd2 hdr hrr
    rw [right_mk] at hrt
    obtain ⟨hz, hrt⟩ := hrt
    have hn := fun j (hj : j ≤ s.length) => nextB_ok W b s j hj hs
    rw [wrS_mk] at hdr ⊢
    unfold SpOut
    rw [encSpl_mk]
    rcases hrt with ⟨h0, hk, hp⟩ | ⟨hw, -, hk2, hp, hkr⟩
    · subst h0 hk
      rw [if_pos rfl] at *
      rw [List.append_assoc] at hdr
      obtain ⟨d1, d2, d3, d4⟩ := itoa_dig hp
      have hpn := itoa_ne hp
      have hnum := numberG_ok W b s i p _ hs hp hdr (stopD_size hz hrr.1)
      have hdz := drop_more hdr
      have hnx := nextN_drop s i 0
      rw [hdr, Nat.add_zero] at hnx
      rw [List.length_append, ← Nat.add_assoc]
      generalize Lib.itoa p = ds at *
      obtain ⟨c, l, rfl⟩ : ∃ c l, ds = c :: l := by
        cases ds with
        | nil => exact absurd rfl hpn
        | cons c l => exact ⟨c, l, rfl⟩
      have hcr := d1 c (by simp)
      have hil := drop_lt hdr
      replace hnx : nextN s i = c.toNat := hnx
      have hix := indexB_ok W (nextN s i)
      rw [hnx, show Lib.indexByte [123, 91] (UInt8.ofNat c.toNat) = -1 from by
        have : ∀ n < 256, 48 ≤ n ∧ n ≤ 57 → Lib.indexByte [123, 91] (UInt8.ofNat n) = -1 := by decide +kernel
        exact this _ c.toNat_lt hcr] at hix
      have hml : i + (c :: l).length ≤ s.length := by
        have := congrArg List.length hdr
        rw [List.length_drop, List.length_append] at this
        omega
      clear d1 d2 d3 d4 ih
      generalize i + (c :: l).length = m at *
      simp only [rdM] at hn hnum ⊢
      refine acalls_of_vc (drawOk W) Tryd.func26 rfl (by decide) (by decide) rfl ?_
      (refine g0_ ?_; repeat ((first | refine n1_ fun b_ => ?_ | refine n2_ fun b_ => ?_ | refine Nat1.mk fun q_ hq_ => ?_ | refine em_ fun x_ hx_ => ?_ | refine Elem1.mk fun e_ he_ => ?_); refine g0_ ?_))
      refine ACalls.lend1 (hn i (by omega)) (by repeat (first | exact .here _ _ _ | apply Look.there)) ?_
      rintro _ -
      rw [hnx]
      (refine g0_ ?_; repeat ((first | refine n1_ fun b_ => ?_ | refine n2_ fun b_ => ?_ | refine Nat1.mk fun q_ hq_ => ?_ | refine em_ fun x_ hx_ => ?_ | refine Elem1.mk fun e_ he_ => ?_); refine g0_ ?_))
      refine (hix).use ?_; (refine g0_ ?_; repeat ((first | refine n1_ fun b_ => ?_ | refine n2_ fun b_ => ?_ | refine Nat1.mk fun q_ hq_ => ?_ | refine em_ fun x_ hx_ => ?_ | refine Elem1.mk fun e_ he_ => ?_); refine g0_ ?_))
      refine head_ ?_; (refine g0_ ?_; repeat ((first | refine n1_ fun b_ => ?_ | refine n2_ fun b_ => ?_ | refine Nat1.mk fun q_ hq_ => ?_ | refine em_ fun x_ hx_ => ?_ | refine Elem1.mk fun e_ he_ => ?_); refine g0_ ?_))
      (refine g1_ ?_; repeat ((first | refine n1_ fun b_ => ?_ | refine n2_ fun b_ => ?_ | refine Nat1.mk fun q_ hq_ => ?_ | refine em_ fun x_ hx_ => ?_ | refine Elem1.mk fun e_ he_ => ?_); refine g1_ ?_))
      refine ACalls.lend1 (hnum) (by repeat (first | exact .here _ _ _ | apply Look.there)) ?_
      rintro _ -
      (refine g0_ ?_; repeat ((first | refine n1_ fun b_ => ?_ | refine n2_ fun b_ => ?_ | refine Nat1.mk fun q_ hq_ => ?_ | refine em_ fun x_ hx_ => ?_ | refine Elem1.mk fun e_ he_ => ?_); refine g0_ ?_))
      by_cases h1 : z = 1
      · subst h1
        rw [show sizeS 1 = [] from rfl, List.nil_append] at hdz
        rw [show sizeS 1 = [] from rfl]
        have hst := next_stopB hdz hrr.2
        rw [List.length_nil, Nat.add_zero]
        refine ACalls.lend1 (hn (m) (by omega)) (by repeat (first | exact .here _ _ _ | apply Look.there)) ?_
        rintro _ -
        (refine g0_ ?_; repeat ((first | refine n1_ fun b_ => ?_ | refine n2_ fun b_ => ?_ | refine Nat1.mk fun q_ hq_ => ?_ | refine em_ fun x_ hx_ => ?_ | refine Elem1.mk fun e_ he_ => ?_); refine g0_ ?_))
        (refine g1_ ?_; repeat ((first | refine n1_ fun b_ => ?_ | refine n2_ fun b_ => ?_ | refine Nat1.mk fun q_ hq_ => ?_ | refine em_ fun x_ hx_ => ?_ | refine Elem1.mk fun e_ he_ => ?_); refine g1_ ?_))
        (exact ⟨[_, _], .swap _ _ _, frz_leafZ p 1⟩)
      · have hsz : sizeS z = 42 :: Lib.itoa z := if_neg h1
        rw [hsz] at hdz
        rw [hsz, show (m) + (42 :: Lib.itoa z).length = (m) + 1 + (Lib.itoa z).length by rw [List.length_cons]; omega]
        have hst := next_is hdz
        have hlt2 := drop_lt hdz
        have hnz := numberG_ok W b s (m + 1) z r hs hz (drop_more (a := [42]) hdz) hrr.1
        simp only [rdM] at hnz
        refine ACalls.lend1 (hn (m) (by omega)) (by repeat (first | exact .here _ _ _ | apply Look.there)) ?_
        rintro _ -
        rw [hst]
        (refine g0_ ?_; repeat ((first | refine n1_ fun b_ => ?_ | refine n2_ fun b_ => ?_ | refine Nat1.mk fun q_ hq_ => ?_ | refine em_ fun x_ hx_ => ?_ | refine Elem1.mk fun e_ he_ => ?_); refine g0_ ?_))
        refine ACalls.lend1 (hnz) (by repeat (first | exact .here _ _ _ | apply Look.there)) ?_
        rintro _ -
        (refine g0_ ?_; repeat ((first | refine n1_ fun b_ => ?_ | refine n2_ fun b_ => ?_ | refine Nat1.mk fun q_ hq_ => ?_ | refine em_ fun x_ hx_ => ?_ | refine Elem1.mk fun e_ he_ => ?_); refine g0_ ?_))
        (refine g1_ ?_; repeat ((first | refine n1_ fun b_ => ?_ | refine n2_ fun b_ => ?_ | refine Nat1.mk fun q_ hq_ => ?_ | refine em_ fun x_ hx_ => ?_ | refine Elem1.mk fun e_ he_ => ?_); refine g1_ ?_))
        (exact ⟨[_, _], List.perm_middle (l₁ := [_, _]), frz_leafZ p z⟩)
    · have hw0 : w ≠ 0 := by omega
      subst hp
      rw [if_neg hw0] at hdr ⊢
      have hpn : (panesT (.mk w 0 z ks)).length = (ks.flatMap panesT).length := by rw [panesT_mk, if_neg hw0]
      rw [hpn] at hd2
      have hpos : ∀ (i' : Nat) (k : Spl), ks[i']? = some k → s.drop (i + (wrSs (ks.take i')).length + 1) = wrS k ++ (wrSs (ks.drop (i' + 1)) ++ clsS w :: (sizeS z ++ r)) := by
        intro i' k hk
        have e : wrSs ks = wrSs (ks.take i') ++ 44 :: (wrS k ++ wrSs (ks.drop (i' + 1))) := by
          conv => lhs; rw [← List.take_append_drop (i' + 1) ks, wrSs_app, wrSs_snoc hk]
          simp
        rw [e, List.append_assoc] at hdr
        rw [pos_kid hdr, List.append_assoc]
      have hkp0 := kids_panes hkr
      have hkk : ∀ k ∈ ks, (panesT k).length + 1 ≤ (ks.flatMap panesT).length := fun k hk => sib_panes hkr hk2 hk
      have hil : i < s.length := by
        rw [List.append_assoc] at hdr
        exact drop_lt hdr
      have hnx : nextN s i = (opnS w).toNat := by
        rw [List.append_assoc] at hdr
        exact next_is hdr
      have hlb : (opnS w :: ((wrSs ks).drop 1 ++ [clsS w])).length = (wrSs ks).length + 1 := by
        have : 1 ≤ (wrSs ks).length := by
          cases ks with
          | nil => simp at hk2
          | cons y ys => rw [wrSs]; simp
        simp only [List.length_append, List.length_cons, List.length_nil, List.length_drop]
        omega
      rw [List.length_append, hlb]
      have hix := indexB_ok W (nextN s i)
      rw [hnx] at hix
      simp only [rdM] at hn ⊢
      rcases hw with rfl | rfl
      · rw [show (opnS 1).toNat = 123 from rfl] at hnx hix
        rw [show Lib.indexByte [123, 91] (UInt8.ofNat 123) = 0 from by decide] at hix
        refine acalls_of_vc (DM_ok (by decide)) Tryd.func26 rfl (by decide) (by decide) rfl ?_
        (refine g0_ ?_; repeat ((first | refine n1_ fun b_ => ?_ | refine n2_ fun b_ => ?_ | refine Nat1.mk fun q_ hq_ => ?_ | refine em_ fun x_ hx_ => ?_ | refine Elem1.mk fun e_ he_ => ?_); refine g0_ ?_))
        rename_i bR
        obtain ⟨bT, rfl⟩ : ∃ z, z = b_ := ⟨_, rfl⟩
        refine ACalls.lend1 (hn i (by omega)) (by repeat (first | exact .here _ _ _ | apply Look.there)) ?_
        rintro _ -
        rw [hnx]
        (refine g0_ ?_; repeat ((first | refine n1_ fun b_ => ?_ | refine n2_ fun b_ => ?_ | refine Nat1.mk fun q_ hq_ => ?_ | refine em_ fun x_ hx_ => ?_ | refine Elem1.mk fun e_ he_ => ?_); refine g0_ ?_))
        refine (hix).use ?_; (refine g0_ ?_; repeat ((first | refine n1_ fun b_ => ?_ | refine n2_ fun b_ => ?_ | refine Nat1.mk fun q_ hq_ => ?_ | refine em_ fun x_ hx_ => ?_ | refine Elem1.mk fun e_ he_ => ?_); refine g0_ ?_))
        refine headT_ (head_ ?_); (refine g0_ ?_; repeat ((first | refine n1_ fun b_ => ?_ | refine n2_ fun b_ => ?_ | refine Nat1.mk fun q_ hq_ => ?_ | refine em_ fun x_ hx_ => ?_ | refine Elem1.mk fun e_ he_ => ?_); refine g0_ ?_))
        (refine g1_ ?_; repeat ((first | refine n1_ fun b_ => ?_ | refine n2_ fun b_ => ?_ | refine Nat1.mk fun q_ hq_ => ?_ | refine em_ fun x_ hx_ => ?_ | refine Elem1.mk fun e_ he_ => ?_); refine g1_ ?_))
        refine' loopI (α := Nat × Nat × Nat × (List Spl)) (fun (i', a, b', l) => []) [(0, _), (1, _), (4, _), (5, _), (6, _)] (fun (i', a, b', l) => ⟨b, .row 2 [.agg [.str s, .int .i64 (a : Int)]] 0⟩ :: ⟨bT, .row 4 [.agg [.int .i64 1, .int .i64 0, .int .i64 1, accV b' 4 (splsV l)]] 0⟩ :: ⟨bR, .row 4 [.agg [.int .i64 0, .int .i64 0, .int .i64 0, .nils]] 0⟩ :: accM b' 4 (splsV l)) (fun (i', a, b', l) => i' < ks.length ∧ a = i + (wrSs (ks.take i')).length ∧ l = ks.take i') (fun (i', a, b', l) => ks.length - i') (0, i, 0, []) ?_ ?_
        · exact ⟨by omega, by rw [List.take_zero]; rfl, rfl⟩
        rintro ⟨i', a, b', l⟩ ⟨hi', ha, hl⟩
        rcases l with _ | ⟨l0, l⟩
        · obtain ⟨k, hk⟩ : ∃ k, ks[i']? = some k := ⟨ks[i']'(by omega), List.getElem?_eq_getElem _⟩
          have hkm := List.mem_of_getElem? hk
          have hdk := hpos i' k hk
          have hkp := hkk k hkm
          have hsn := wrSs_snoc hk
          rw [← ha] at hdk
          have hnx' : ks.take (i' + 1) = [] ++ [k] := by rw [take_snoc_of hk, ← hl]
          have hki := fun h => ih k hkm 1 (a + 1) (d + 1) _ (hkr k hkm) (by omega) (by omega) hdk h
          have hda := drop_more hdk
          have hal : a + 1 + (wrS k).length < s.length := by
            have := congrArg List.length hda
            rw [List.length_drop, List.length_append, List.length_cons] at this
            omega
          have haw : a + 1 + (wrS k).length = i + (wrSs (ks.take (i' + 1))).length := by rw [hsn, List.length_append, List.length_cons, ha]; omega
          have hee := congrArg List.length hl
          simp only [List.length_cons, List.length_nil, List.length_take] at hee
          try have hlm : (List.map encSpl l).length = l.length := List.length_map _
          have ha9 : a + 1 ≤ 4000 := by omega
          clear hpos hkk hdk
          generalize a + 1 + (wrS k).length = a2 at *
          by_cases hlast : i' + 1 = ks.length
          · exfalso
            omega
          · have hdd : ∃ X, wrSs (ks.drop (i' + 1)) = 44 :: X := by
              cases hh : ks.drop (i' + 1) with
              | nil => have := congrArg List.length hh; rw [List.length_drop, List.length_nil] at this; omega
              | cons y ys => exact ⟨wrS y ++ wrSs ys, by rw [wrSs]; rfl⟩
            obtain ⟨X, hX⟩ := hdd
            rw [hX] at hda hki
            have hki := hki (stop_comma _)
            have hnx2 := next_is hda
            obtain ⟨w2, p2, s2, ks2⟩ := k
            have e2 := encSpl_mk w2 p2 s2 ks2
            unfold SpOut at hki
            rw [e2] at hki
            simp only [rdM] at hki
            (refine g0_ ?_; repeat ((first | refine n1_ fun b_ => ?_ | refine n2_ fun b_ => ?_ | refine Nat1.mk fun q_ hq_ => ?_ | refine em_ fun x_ hx_ => ?_ | refine Elem1.mk fun e_ he_ => ?_); refine g0_ ?_))
            refine Draws11.tree ⟨10, [.new, .new, .new, .new, .new, .turn, .skip, .skip, .skip, .skip], (.one 5 [.again, .again, .keep, .keep, .keep, .keep, .new, .turn, .skip, .skip] (.one 7 [.keep, .keep, .keep, .keep, .keep, .keep, .keep, .keep, .new, .turn] (.one 9 [.keep, .keep, .keep, .keep, .keep, .keep, .keep, .keep, .keep, .keep] .fin))), by decide +kernel, ?_⟩; (refine g0_ ?_; repeat ((first | refine n1_ fun b_ => ?_ | refine n2_ fun b_ => ?_ | refine Nat1.mk fun q_ hq_ => ?_ | refine em_ fun x_ hx_ => ?_ | refine Elem1.mk fun e_ he_ => ?_); refine g0_ ?_))
            refine ACalls.lendK hki (List.Perm.refl _) ?_
            (refine g0_ ?_; repeat ((first | refine n1_ fun b_ => ?_ | refine n2_ fun b_ => ?_ | refine Nat1.mk fun q_ hq_ => ?_ | refine em_ fun x_ hx_ => ?_ | refine Elem1.mk fun e_ he_ => ?_); refine g0_ ?_))
            refine ACalls.lend1 (hn a2 (by omega)) (by repeat (first | exact .here _ _ _ | apply Look.there)) ?_
            rintro _ -
            rw [hnx2]
            (refine g0_ ?_; repeat ((first | refine n1_ fun b_ => ?_ | refine n2_ fun b_ => ?_ | refine Nat1.mk fun q_ hq_ => ?_ | refine em_ fun x_ hx_ => ?_ | refine Elem1.mk fun e_ he_ => ?_); refine g0_ ?_))
            (refine g1_ ?_; repeat ((first | refine n1_ fun b_ => ?_ | refine n2_ fun b_ => ?_ | refine Nat1.mk fun q_ hq_ => ?_ | refine em_ fun x_ hx_ => ?_ | refine Elem1.mk fun e_ he_ => ?_); refine g1_ ?_))
            rw [← e2]
            try rw [show ∀ v : PV, (List.map encSpl l).length + 1 + [v].length = (List.map encSpl (l ++ [.mk w2 p2 s2 ks2])).length + 1 from fun v => by simp]
            try rw [show (encSpl l0 :: List.map encSpl l) ++ [encSpl (.mk w2 p2 s2 ks2)] = splsV (l0 :: l ++ [.mk w2 p2 s2 ks2]) from by simp [splsV]]
            refine nx_ (i' + 1, a2, b_, [] ++ [.mk w2 p2 s2 ks2]) ?_ ?_
            · exact ⟨by omega, haw, hnx'.symm⟩
            · ((try dsimp only); (try simp only [List.length_drop, List.length_take, List.length_append, List.length_cons, List.length_nil, List.length_map] at *); omega)
        · obtain ⟨k, hk⟩ : ∃ k, ks[i']? = some k := ⟨ks[i']'(by omega), List.getElem?_eq_getElem _⟩
          have hkm := List.mem_of_getElem? hk
          have hdk := hpos i' k hk
          have hkp := hkk k hkm
          have hsn := wrSs_snoc hk
          rw [← ha] at hdk
          have hnx' : ks.take (i' + 1) = (l0 :: l) ++ [k] := by rw [take_snoc_of hk, ← hl]
          have hki := fun h => ih k hkm 1 (a + 1) (d + 1) _ (hkr k hkm) (by omega) (by omega) hdk h
          have hda := drop_more hdk
          have hal : a + 1 + (wrS k).length < s.length := by
            have := congrArg List.length hda
            rw [List.length_drop, List.length_append, List.length_cons] at this
            omega
          have haw : a + 1 + (wrS k).length = i + (wrSs (ks.take (i' + 1))).length := by rw [hsn, List.length_append, List.length_cons, ha]; omega
          have hee := congrArg List.length hl
          simp only [List.length_cons, List.length_nil, List.length_take] at hee
          try have hlm : (List.map encSpl l).length = l.length := List.length_map _
          have ha9 : a + 1 ≤ 4000 := by omega
          clear hpos hkk hdk
          generalize a + 1 + (wrS k).length = a2 at *
          by_cases hlast : i' + 1 = ks.length
          · rw [hlast, List.drop_length] at hda hki
            rw [hlast, List.take_length] at hnx' haw
            have hki := hki (stop_close _)
            have hnx2 := next_is hda
            obtain ⟨w2, p2, s2, ks2⟩ := k
            have e2 := encSpl_mk w2 p2 s2 ks2
            unfold SpOut at hki
            rw [e2] at hki
            simp only [rdM] at hki
            have hnh : Hide (ks = (l0 :: l) ++ [.mk w2 p2 s2 ks2]) := ⟨hnx'⟩
            have hd9 : d ≤ 12 ∧ ks.length ≤ 12 := by omega
            clear hnx' hl hk hkm hkp hsn hdr hpn hlb hd2 hkp0 hkr hnx hix ih ha
            (refine g0_ ?_; repeat ((first | refine n1_ fun b_ => ?_ | refine n2_ fun b_ => ?_ | refine Nat1.mk fun q_ hq_ => ?_ | refine em_ fun x_ hx_ => ?_ | refine Elem1.mk fun e_ he_ => ?_); refine g0_ ?_))
            refine Draws11.tree ⟨10, [.new, .new, .new, .new, .new, .turn, .skip, .skip, .skip, .skip], (.one 5 [.again, .again, .keep, .keep, .keep, .keep, .new, .turn, .skip, .skip] (.one 7 [.keep, .keep, .keep, .keep, .keep, .keep, .keep, .keep, .new, .turn] (.one 9 [.keep, .keep, .keep, .keep, .keep, .keep, .keep, .keep, .keep, .keep] .fin))), by decide +kernel, ?_⟩; (refine g0_ ?_; repeat ((first | refine n1_ fun b_ => ?_ | refine n2_ fun b_ => ?_ | refine Nat1.mk fun q_ hq_ => ?_ | refine em_ fun x_ hx_ => ?_ | refine Elem1.mk fun e_ he_ => ?_); refine g0_ ?_))
            refine ACalls.lendK hki (List.Perm.refl _) ?_
            (refine g0_ ?_; repeat ((first | refine n1_ fun b_ => ?_ | refine n2_ fun b_ => ?_ | refine Nat1.mk fun q_ hq_ => ?_ | refine em_ fun x_ hx_ => ?_ | refine Elem1.mk fun e_ he_ => ?_); refine g0_ ?_))
            refine ACalls.lend1 (hn a2 (by omega)) (by repeat (first | exact .here _ _ _ | apply Look.there)) ?_
            rintro _ -
            rw [hnx2]
            (refine g0_ ?_; repeat ((first | refine n1_ fun b_ => ?_ | refine n2_ fun b_ => ?_ | refine Nat1.mk fun q_ hq_ => ?_ | refine em_ fun x_ hx_ => ?_ | refine Elem1.mk fun e_ he_ => ?_); refine g0_ ?_))
            (refine g1_ ?_; repeat ((first | refine n1_ fun b_ => ?_ | refine n2_ fun b_ => ?_ | refine Nat1.mk fun q_ hq_ => ?_ | refine em_ fun x_ hx_ => ?_ | refine Elem1.mk fun e_ he_ => ?_); refine g1_ ?_))
            have hdz := drop_more (a := [clsS 1]) hda
            change s.drop (a2 + 1) = sizeS z ++ r at hdz
            rw [show i + ((wrSs ks).length + 1 + (sizeS z).length) = a2 + 1 + (sizeS z).length by omega]
            clear haw
            by_cases h1 : z = 1
            · subst h1
              rw [show sizeS 1 = [] from rfl, List.nil_append] at hdz
              rw [show sizeS 1 = [] from rfl]
              have hst := next_stopB hdz hrr.2
              rw [List.length_nil, Nat.add_zero]
              refine ACalls.lend1 (hn (a2 + 1) (by omega)) (by repeat (first | exact .here _ _ _ | apply Look.there)) ?_
              rintro _ -
              (refine g0_ ?_; repeat ((first | refine n1_ fun b_ => ?_ | refine n2_ fun b_ => ?_ | refine Nat1.mk fun q_ hq_ => ?_ | refine em_ fun x_ hx_ => ?_ | refine Elem1.mk fun e_ he_ => ?_); refine g0_ ?_))
              (refine g1_ ?_; repeat ((first | refine n1_ fun b_ => ?_ | refine n2_ fun b_ => ?_ | refine Nat1.mk fun q_ hq_ => ?_ | refine em_ fun x_ hx_ => ?_ | refine Elem1.mk fun e_ he_ => ?_); refine g1_ ?_))
              (exact ⟨[_, _, _], .swap _ _ _, frz_last (by rw [Hide.out hnh, List.map_append, List.map_cons, List.map_cons, List.map_nil, e2]) (.there _ _ _ _ _ (.there _ _ _ _ _ (.here _ _ _))) (by simp)⟩)
            · have hsz : sizeS z = 42 :: Lib.itoa z := if_neg h1
              rw [hsz] at hdz
              rw [hsz, show (a2 + 1) + (42 :: Lib.itoa z).length = (a2 + 1) + 1 + (Lib.itoa z).length by rw [List.length_cons]; omega]
              have hst := next_is hdz
              have hlt2 := drop_lt hdz
              have hnz := numberG_ok W b s (a2 + 1 + 1) z r hs hz (drop_more (a := [42]) hdz) hrr.1
              simp only [rdM] at hnz
              refine ACalls.lend1 (hn (a2 + 1) (by omega)) (by repeat (first | exact .here _ _ _ | apply Look.there)) ?_
              rintro _ -
              rw [hst]
              (refine g0_ ?_; repeat ((first | refine n1_ fun b_ => ?_ | refine n2_ fun b_ => ?_ | refine Nat1.mk fun q_ hq_ => ?_ | refine em_ fun x_ hx_ => ?_ | refine Elem1.mk fun e_ he_ => ?_); refine g0_ ?_))
              refine ACalls.lend1 (hnz) (by repeat (first | exact .here _ _ _ | apply Look.there)) ?_
              rintro _ -
              (refine g0_ ?_; repeat ((first | refine n1_ fun b_ => ?_ | refine n2_ fun b_ => ?_ | refine Nat1.mk fun q_ hq_ => ?_ | refine em_ fun x_ hx_ => ?_ | refine Elem1.mk fun e_ he_ => ?_); refine g0_ ?_))
              (refine g1_ ?_; repeat ((first | refine n1_ fun b_ => ?_ | refine n2_ fun b_ => ?_ | refine Nat1.mk fun q_ hq_ => ?_ | refine em_ fun x_ hx_ => ?_ | refine Elem1.mk fun e_ he_ => ?_); refine g1_ ?_))
              (exact ⟨[_, _, _], List.perm_middle (l₁ := [_, _]), frz_last (by rw [Hide.out hnh, List.map_append, List.map_cons, List.map_cons, List.map_nil, e2]) (.there _ _ _ _ _ (.there _ _ _ _ _ (.here _ _ _))) (by simp)⟩)
          · have hdd : ∃ X, wrSs (ks.drop (i' + 1)) = 44 :: X := by
              cases hh : ks.drop (i' + 1) with
              | nil => have := congrArg List.length hh; rw [List.length_drop, List.length_nil] at this; omega
              | cons y ys => exact ⟨wrS y ++ wrSs ys, by rw [wrSs]; rfl⟩
            obtain ⟨X, hX⟩ := hdd
            rw [hX] at hda hki
            have hki := hki (stop_comma _)
            have hnx2 := next_is hda
            obtain ⟨w2, p2, s2, ks2⟩ := k
            have e2 := encSpl_mk w2 p2 s2 ks2
            unfold SpOut at hki
            rw [e2] at hki
            simp only [rdM] at hki
            (refine g0_ ?_; repeat ((first | refine n1_ fun b_ => ?_ | refine n2_ fun b_ => ?_ | refine Nat1.mk fun q_ hq_ => ?_ | refine em_ fun x_ hx_ => ?_ | refine Elem1.mk fun e_ he_ => ?_); refine g0_ ?_))
            refine Draws11.tree ⟨10, [.new, .new, .new, .new, .new, .turn, .skip, .skip, .skip, .skip], (.one 5 [.again, .again, .keep, .keep, .keep, .keep, .new, .turn, .skip, .skip] (.one 7 [.keep, .keep, .keep, .keep, .keep, .keep, .keep, .keep, .new, .turn] (.one 9 [.keep, .keep, .keep, .keep, .keep, .keep, .keep, .keep, .keep, .keep] .fin))), by decide +kernel, ?_⟩; (refine g0_ ?_; repeat ((first | refine n1_ fun b_ => ?_ | refine n2_ fun b_ => ?_ | refine Nat1.mk fun q_ hq_ => ?_ | refine em_ fun x_ hx_ => ?_ | refine Elem1.mk fun e_ he_ => ?_); refine g0_ ?_))
            refine ACalls.lendK hki (List.Perm.refl _) ?_
            (refine g0_ ?_; repeat ((first | refine n1_ fun b_ => ?_ | refine n2_ fun b_ => ?_ | refine Nat1.mk fun q_ hq_ => ?_ | refine em_ fun x_ hx_ => ?_ | refine Elem1.mk fun e_ he_ => ?_); refine g0_ ?_))
            refine ACalls.lend1 (hn a2 (by omega)) (by repeat (first | exact .here _ _ _ | apply Look.there)) ?_
            rintro _ -
            rw [hnx2]
            (refine g0_ ?_; repeat ((first | refine n1_ fun b_ => ?_ | refine n2_ fun b_ => ?_ | refine Nat1.mk fun q_ hq_ => ?_ | refine em_ fun x_ hx_ => ?_ | refine Elem1.mk fun e_ he_ => ?_); refine g0_ ?_))
            (refine g1_ ?_; repeat ((first | refine n1_ fun b_ => ?_ | refine n2_ fun b_ => ?_ | refine Nat1.mk fun q_ hq_ => ?_ | refine em_ fun x_ hx_ => ?_ | refine Elem1.mk fun e_ he_ => ?_); refine g1_ ?_))
            rw [← e2]
            try rw [show ∀ v : PV, (List.map encSpl l).length + 1 + [v].length = (List.map encSpl (l ++ [.mk w2 p2 s2 ks2])).length + 1 from fun v => by simp]
            try rw [show (encSpl l0 :: List.map encSpl l) ++ [encSpl (.mk w2 p2 s2 ks2)] = splsV (l0 :: l ++ [.mk w2 p2 s2 ks2]) from by simp [splsV]]
            refine nx_ (i' + 1, a2, b_, (l0 :: l) ++ [.mk w2 p2 s2 ks2]) ?_ ?_
            · exact ⟨by omega, haw, hnx'.symm⟩
            · ((try dsimp only); (try simp only [List.length_drop, List.length_take, List.length_append, List.length_cons, List.length_nil, List.length_map] at *); omega)
      · rw [show (opnS 2).toNat = 91 from rfl] at hnx hix
        rw [show Lib.indexByte [123, 91] (UInt8.ofNat 91) = 1 from by decide] at hix
        refine acalls_of_vc (DM_ok (by decide)) Tryd.func26 rfl (by decide) (by decide) rfl ?_
        (refine g0_ ?_; repeat ((first | refine n1_ fun b_ => ?_ | refine n2_ fun b_ => ?_ | refine Nat1.mk fun q_ hq_ => ?_ | refine em_ fun x_ hx_ => ?_ | refine Elem1.mk fun e_ he_ => ?_); refine g0_ ?_))
        rename_i bR
        obtain ⟨bT, rfl⟩ : ∃ z, z = b_ := ⟨_, rfl⟩
        refine ACalls.lend1 (hn i (by omega)) (by repeat (first | exact .here _ _ _ | apply Look.there)) ?_
        rintro _ -
        rw [hnx]
        (refine g0_ ?_; repeat ((first | refine n1_ fun b_ => ?_ | refine n2_ fun b_ => ?_ | refine Nat1.mk fun q_ hq_ => ?_ | refine em_ fun x_ hx_ => ?_ | refine Elem1.mk fun e_ he_ => ?_); refine g0_ ?_))
        refine (hix).use ?_; (refine g0_ ?_; repeat ((first | refine n1_ fun b_ => ?_ | refine n2_ fun b_ => ?_ | refine Nat1.mk fun q_ hq_ => ?_ | refine em_ fun x_ hx_ => ?_ | refine Elem1.mk fun e_ he_ => ?_); refine g0_ ?_))
        refine headT_ (head_ ?_); (refine g0_ ?_; repeat ((first | refine n1_ fun b_ => ?_ | refine n2_ fun b_ => ?_ | refine Nat1.mk fun q_ hq_ => ?_ | refine em_ fun x_ hx_ => ?_ | refine Elem1.mk fun e_ he_ => ?_); refine g0_ ?_))
        (refine g1_ ?_; repeat ((first | refine n1_ fun b_ => ?_ | refine n2_ fun b_ => ?_ | refine Nat1.mk fun q_ hq_ => ?_ | refine em_ fun x_ hx_ => ?_ | refine Elem1.mk fun e_ he_ => ?_); refine g1_ ?_))
        refine' loopI (α := Nat × Nat × Nat × (List Spl)) (fun (i', a, b', l) => []) [(0, _), (1, _), (4, _), (5, _), (6, _)] (fun (i', a, b', l) => ⟨b, .row 2 [.agg [.str s, .int .i64 (a : Int)]] 0⟩ :: ⟨bT, .row 4 [.agg [.int .i64 2, .int .i64 0, .int .i64 1, accV b' 4 (splsV l)]] 0⟩ :: ⟨bR, .row 4 [.agg [.int .i64 0, .int .i64 0, .int .i64 0, .nils]] 0⟩ :: accM b' 4 (splsV l)) (fun (i', a, b', l) => i' < ks.length ∧ a = i + (wrSs (ks.take i')).length ∧ l = ks.take i') (fun (i', a, b', l) => ks.length - i') (0, i, 0, []) ?_ ?_
        · exact ⟨by omega, by rw [List.take_zero]; rfl, rfl⟩
        rintro ⟨i', a, b', l⟩ ⟨hi', ha, hl⟩
        rcases l with _ | ⟨l0, l⟩
        · obtain ⟨k, hk⟩ : ∃ k, ks[i']? = some k := ⟨ks[i']'(by omega), List.getElem?_eq_getElem _⟩
          have hkm := List.mem_of_getElem? hk
          have hdk := hpos i' k hk
          have hkp := hkk k hkm
          have hsn := wrSs_snoc hk
          rw [← ha] at hdk
          have hnx' : ks.take (i' + 1) = [] ++ [k] := by rw [take_snoc_of hk, ← hl]
          have hki := fun h => ih k hkm 2 (a + 1) (d + 1) _ (hkr k hkm) (by omega) (by omega) hdk h
          have hda := drop_more hdk
          have hal : a + 1 + (wrS k).length < s.length := by
            have := congrArg List.length hda
            rw [List.length_drop, List.length_append, List.length_cons] at this
            omega
          have haw : a + 1 + (wrS k).length = i + (wrSs (ks.take (i' + 1))).length := by rw [hsn, List.length_append, List.length_cons, ha]; omega
          have hee := congrArg List.length hl
          simp only [List.length_cons, List.length_nil, List.length_take] at hee
          try have hlm : (List.map encSpl l).length = l.length := List.length_map _
          have ha9 : a + 1 ≤ 4000 := by omega
          clear hpos hkk hdk
          generalize a + 1 + (wrS k).length = a2 at *
          by_cases hlast : i' + 1 = ks.length
          · exfalso
            omega
          · have hdd : ∃ X, wrSs (ks.drop (i' + 1)) = 44 :: X := by
              cases hh : ks.drop (i' + 1) with
              | nil => have := congrArg List.length hh; rw [List.length_drop, List.length_nil] at this; omega
              | cons y ys => exact ⟨wrS y ++ wrSs ys, by rw [wrSs]; rfl⟩
            obtain ⟨X, hX⟩ := hdd
            rw [hX] at hda hki
            have hki := hki (stop_comma _)
            have hnx2 := next_is hda
            obtain ⟨w2, p2, s2, ks2⟩ := k
            have e2 := encSpl_mk w2 p2 s2 ks2
            unfold SpOut at hki
            rw [e2] at hki
            simp only [rdM] at hki
            (refine g0_ ?_; repeat ((first | refine n1_ fun b_ => ?_ | refine n2_ fun b_ => ?_ | refine Nat1.mk fun q_ hq_ => ?_ | refine em_ fun x_ hx_ => ?_ | refine Elem1.mk fun e_ he_ => ?_); refine g0_ ?_))
            refine Draws11.tree ⟨10, [.new, .new, .new, .new, .new, .turn, .skip, .skip, .skip, .skip], (.one 5 [.again, .again, .keep, .keep, .keep, .keep, .new, .turn, .skip, .skip] (.one 7 [.keep, .keep, .keep, .keep, .keep, .keep, .keep, .keep, .new, .turn] (.one 9 [.keep, .keep, .keep, .keep, .keep, .keep, .keep, .keep, .keep, .keep] .fin))), by decide +kernel, ?_⟩; (refine g0_ ?_; repeat ((first | refine n1_ fun b_ => ?_ | refine n2_ fun b_ => ?_ | refine Nat1.mk fun q_ hq_ => ?_ | refine em_ fun x_ hx_ => ?_ | refine Elem1.mk fun e_ he_ => ?_); refine g0_ ?_))
            refine ACalls.lendK hki (List.Perm.refl _) ?_
            (refine g0_ ?_; repeat ((first | refine n1_ fun b_ => ?_ | refine n2_ fun b_ => ?_ | refine Nat1.mk fun q_ hq_ => ?_ | refine em_ fun x_ hx_ => ?_ | refine Elem1.mk fun e_ he_ => ?_); refine g0_ ?_))
            refine ACalls.lend1 (hn a2 (by omega)) (by repeat (first | exact .here _ _ _ | apply Look.there)) ?_
            rintro _ -
            rw [hnx2]
            (refine g0_ ?_; repeat ((first | refine n1_ fun b_ => ?_ | refine n2_ fun b_ => ?_ | refine Nat1.mk fun q_ hq_ => ?_ | refine em_ fun x_ hx_ => ?_ | refine Elem1.mk fun e_ he_ => ?_); refine g0_ ?_))
            (refine g1_ ?_; repeat ((first | refine n1_ fun b_ => ?_ | refine n2_ fun b_ => ?_ | refine Nat1.mk fun q_ hq_ => ?_ | refine em_ fun x_ hx_ => ?_ | refine Elem1.mk fun e_ he_ => ?_); refine g1_ ?_))
            rw [← e2]
            try rw [show ∀ v : PV, (List.map encSpl l).length + 1 + [v].length = (List.map encSpl (l ++ [.mk w2 p2 s2 ks2])).length + 1 from fun v => by simp]
            try rw [show (encSpl l0 :: List.map encSpl l) ++ [encSpl (.mk w2 p2 s2 ks2)] = splsV (l0 :: l ++ [.mk w2 p2 s2 ks2]) from by simp [splsV]]
            refine nx_ (i' + 1, a2, b_, [] ++ [.mk w2 p2 s2 ks2]) ?_ ?_
            · exact ⟨by omega, haw, hnx'.symm⟩
            · ((try dsimp only); (try simp only [List.length_drop, List.length_take, List.length_append, List.length_cons, List.length_nil, List.length_map] at *); omega)
        · obtain ⟨k, hk⟩ : ∃ k, ks[i']? = some k := ⟨ks[i']'(by omega), List.getElem?_eq_getElem _⟩
          have hkm := List.mem_of_getElem? hk
          have hdk := hpos i' k hk
          have hkp := hkk k hkm
          have hsn := wrSs_snoc hk
          rw [← ha] at hdk
          have hnx' : ks.take (i' + 1) = (l0 :: l) ++ [k] := by rw [take_snoc_of hk, ← hl]
          have hki := fun h => ih k hkm 2 (a + 1) (d + 1) _ (hkr k hkm) (by omega) (by omega) hdk h
          have hda := drop_more hdk
          have hal : a + 1 + (wrS k).length < s.length := by
            have := congrArg List.length hda
            rw [List.length_drop, List.length_append, List.length_cons] at this
            omega
          have haw : a + 1 + (wrS k).length = i + (wrSs (ks.take (i' + 1))).length := by rw [hsn, List.length_append, List.length_cons, ha]; omega
          have hee := congrArg List.length hl
          simp only [List.length_cons, List.length_nil, List.length_take] at hee
          try have hlm : (List.map encSpl l).length = l.length := List.length_map _
          have ha9 : a + 1 ≤ 4000 := by omega
          clear hpos hkk hdk
          generalize a + 1 + (wrS k).length = a2 at *
          by_cases hlast : i' + 1 = ks.length
          · rw [hlast, List.drop_length] at hda hki
            rw [hlast, List.take_length] at hnx' haw
            have hki := hki (stop_close _)
            have hnx2 := next_is hda
            obtain ⟨w2, p2, s2, ks2⟩ := k
            have e2 := encSpl_mk w2 p2 s2 ks2
            unfold SpOut at hki
            rw [e2] at hki
            simp only [rdM] at hki
            have hnh : Hide (ks = (l0 :: l) ++ [.mk w2 p2 s2 ks2]) := ⟨hnx'⟩
            have hd9 : d ≤ 12 ∧ ks.length ≤ 12 := by omega
            clear hnx' hl hk hkm hkp hsn hdr hpn hlb hd2 hkp0 hkr hnx hix ih ha
            (refine g0_ ?_; repeat ((first | refine n1_ fun b_ => ?_ | refine n2_ fun b_ => ?_ | refine Nat1.mk fun q_ hq_ => ?_ | refine em_ fun x_ hx_ => ?_ | refine Elem1.mk fun e_ he_ => ?_); refine g0_ ?_))
            refine Draws11.tree ⟨10, [.new, .new, .new, .new, .new, .turn, .skip, .skip, .skip, .skip], (.one 5 [.again, .again, .keep, .keep, .keep, .keep, .new, .turn, .skip, .skip] (.one 7 [.keep, .keep, .keep, .keep, .keep, .keep, .keep, .keep, .new, .turn] (.one 9 [.keep, .keep, .keep, .keep, .keep, .keep, .keep, .keep, .keep, .keep] .fin))), by decide +kernel, ?_⟩; (refine g0_ ?_; repeat ((first | refine n1_ fun b_ => ?_ | refine n2_ fun b_ => ?_ | refine Nat1.mk fun q_ hq_ => ?_ | refine em_ fun x_ hx_ => ?_ | refine Elem1.mk fun e_ he_ => ?_); refine g0_ ?_))
            refine ACalls.lendK hki (List.Perm.refl _) ?_
            (refine g0_ ?_; repeat ((first | refine n1_ fun b_ => ?_ | refine n2_ fun b_ => ?_ | refine Nat1.mk fun q_ hq_ => ?_ | refine em_ fun x_ hx_ => ?_ | refine Elem1.mk fun e_ he_ => ?_); refine g0_ ?_))
            refine ACalls.lend1 (hn a2 (by omega)) (by repeat (first | exact .here _ _ _ | apply Look.there)) ?_
            rintro _ -
            rw [hnx2]
            (refine g0_ ?_; repeat ((first | refine n1_ fun b_ => ?_ | refine n2_ fun b_ => ?_ | refine Nat1.mk fun q_ hq_ => ?_ | refine em_ fun x_ hx_ => ?_ | refine Elem1.mk fun e_ he_ => ?_); refine g0_ ?_))
            (refine g1_ ?_; repeat ((first | refine n1_ fun b_ => ?_ | refine n2_ fun b_ => ?_ | refine Nat1.mk fun q_ hq_ => ?_ | refine em_ fun x_ hx_ => ?_ | refine Elem1.mk fun e_ he_ => ?_); refine g1_ ?_))
            have hdz := drop_more (a := [clsS 2]) hda
            change s.drop (a2 + 1) = sizeS z ++ r at hdz
            rw [show i + ((wrSs ks).length + 1 + (sizeS z).length) = a2 + 1 + (sizeS z).length by omega]
            clear haw
            by_cases h1 : z = 1
            · subst h1
              rw [show sizeS 1 = [] from rfl, List.nil_append] at hdz
              rw [show sizeS 1 = [] from rfl]
              have hst := next_stopB hdz hrr.2
              rw [List.length_nil, Nat.add_zero]
              refine ACalls.lend1 (hn (a2 + 1) (by omega)) (by repeat (first | exact .here _ _ _ | apply Look.there)) ?_
              rintro _ -
              (refine g0_ ?_; repeat ((first | refine n1_ fun b_ => ?_ | refine n2_ fun b_ => ?_ | refine Nat1.mk fun q_ hq_ => ?_ | refine em_ fun x_ hx_ => ?_ | refine Elem1.mk fun e_ he_ => ?_); refine g0_ ?_))
              (refine g1_ ?_; repeat ((first | refine n1_ fun b_ => ?_ | refine n2_ fun b_ => ?_ | refine Nat1.mk fun q_ hq_ => ?_ | refine em_ fun x_ hx_ => ?_ | refine Elem1.mk fun e_ he_ => ?_); refine g1_ ?_))
              (exact ⟨[_, _, _], .swap _ _ _, frz_last (by rw [Hide.out hnh, List.map_append, List.map_cons, List.map_cons, List.map_nil, e2]) (.there _ _ _ _ _ (.there _ _ _ _ _ (.here _ _ _))) (by simp)⟩)
            · have hsz : sizeS z = 42 :: Lib.itoa z := if_neg h1
              rw [hsz] at hdz
              rw [hsz, show (a2 + 1) + (42 :: Lib.itoa z).length = (a2 + 1) + 1 + (Lib.itoa z).length by rw [List.length_cons]; omega]
              have hst := next_is hdz
              have hlt2 := drop_lt hdz
              have hnz := numberG_ok W b s (a2 + 1 + 1) z r hs hz (drop_more (a := [42]) hdz) hrr.1
              simp only [rdM] at hnz
              refine ACalls.lend1 (hn (a2 + 1) (by omega)) (by repeat (first | exact .here _ _ _ | apply Look.there)) ?_
              rintro _ -
              rw [hst]
              (refine g0_ ?_; repeat ((first | refine n1_ fun b_ => ?_ | refine n2_ fun b_ => ?_ | refine Nat1.mk fun q_ hq_ => ?_ | refine em_ fun x_ hx_ => ?_ | refine Elem1.mk fun e_ he_ => ?_); refine g0_ ?_))
              refine ACalls.lend1 (hnz) (by repeat (first | exact .here _ _ _ | apply Look.there)) ?_
              rintro _ -
              (refine g0_ ?_; repeat ((first | refine n1_ fun b_ => ?_ | refine n2_ fun b_ => ?_ | refine Nat1.mk fun q_ hq_ => ?_ | refine em_ fun x_ hx_ => ?_ | refine Elem1.mk fun e_ he_ => ?_); refine g0_ ?_))
              (refine g1_ ?_; repeat ((first | refine n1_ fun b_ => ?_ | refine n2_ fun b_ => ?_ | refine Nat1.mk fun q_ hq_ => ?_ | refine em_ fun x_ hx_ => ?_ | refine Elem1.mk fun e_ he_ => ?_); refine g1_ ?_))
              (exact ⟨[_, _, _], List.perm_middle (l₁ := [_, _]), frz_last (by rw [Hide.out hnh, List.map_append, List.map_cons, List.map_cons, List.map_nil, e2]) (.there _ _ _ _ _ (.there _ _ _ _ _ (.here _ _ _))) (by simp)⟩)
          · have hdd : ∃ X, wrSs (ks.drop (i' + 1)) = 44 :: X := by
              cases hh : ks.drop (i' + 1) with
              | nil => have := congrArg List.length hh; rw [List.length_drop, List.length_nil] at this; omega
              | cons y ys => exact ⟨wrS y ++ wrSs ys, by rw [wrSs]; rfl⟩
            obtain ⟨X, hX⟩ := hdd
            rw [hX] at hda hki
            have hki := hki (stop_comma _)
            have hnx2 := next_is hda
            obtain ⟨w2, p2, s2, ks2⟩ := k
            have e2 := encSpl_mk w2 p2 s2 ks2
            unfold SpOut at hki
            rw [e2] at hki
            simp only [rdM] at hki
            (refine g0_ ?_; repeat ((first | refine n1_ fun b_ => ?_ | refine n2_ fun b_ => ?_ | refine Nat1.mk fun q_ hq_ => ?_ | refine em_ fun x_ hx_ => ?_ | refine Elem1.mk fun e_ he_ => ?_); refine g0_ ?_))
            refine Draws11.tree ⟨10, [.new, .new, .new, .new, .new, .turn, .skip, .skip, .skip, .skip], (.one 5 [.again, .again, .keep, .keep, .keep, .keep, .new, .turn, .skip, .skip] (.one 7 [.keep, .keep, .keep, .keep, .keep, .keep, .keep, .keep, .new, .turn] (.one 9 [.keep, .keep, .keep, .keep, .keep, .keep, .keep, .keep, .keep, .keep] .fin))), by decide +kernel, ?_⟩; (refine g0_ ?_; repeat ((first | refine n1_ fun b_ => ?_ | refine n2_ fun b_ => ?_ | refine Nat1.mk fun q_ hq_ => ?_ | refine em_ fun x_ hx_ => ?_ | refine Elem1.mk fun e_ he_ => ?_); refine g0_ ?_))
            refine ACalls.lendK hki (List.Perm.refl _) ?_
            (refine g0_ ?_; repeat ((first | refine n1_ fun b_ => ?_ | refine n2_ fun b_ => ?_ | refine Nat1.mk fun q_ hq_ => ?_ | refine em_ fun x_ hx_ => ?_ | refine Elem1.mk fun e_ he_ => ?_); refine g0_ ?_))
            refine ACalls.lend1 (hn a2 (by omega)) (by repeat (first | exact .here _ _ _ | apply Look.there)) ?_
            rintro _ -
            rw [hnx2]
            (refine g0_ ?_; repeat ((first | refine n1_ fun b_ => ?_ | refine n2_ fun b_ => ?_ | refine Nat1.mk fun q_ hq_ => ?_ | refine em_ fun x_ hx_ => ?_ | refine Elem1.mk fun e_ he_ => ?_); refine g0_ ?_))
            (refine g1_ ?_; repeat ((first | refine n1_ fun b_ => ?_ | refine n2_ fun b_ => ?_ | refine Nat1.mk fun q_ hq_ => ?_ | refine em_ fun x_ hx_ => ?_ | refine Elem1.mk fun e_ he_ => ?_); refine g1_ ?_))
            rw [← e2]
            try rw [show ∀ v : PV, (List.map encSpl l).length + 1 + [v].length = (List.map encSpl (l ++ [.mk w2 p2 s2 ks2])).length + 1 from fun v => by simp]
            try rw [show (encSpl l0 :: List.map encSpl l) ++ [encSpl (.mk w2 p2 s2 ks2)] = splsV (l0 :: l ++ [.mk w2 p2 s2 ks2]) from by simp [splsV]]
            refine nx_ (i' + 1, a2, b_, (l0 :: l) ++ [.mk w2 p2 s2 ks2]) ?_ ?_
            · exact ⟨by omega, haw, hnx'.symm⟩
            · ((try dsimp only); (try simp only [List.length_drop, List.length_take, List.length_append, List.length_cons, List.length_nil, List.length_map] at *); omega)
end Go.Eng.YtimpfhokacfobaaDoor
end

/- Splits: a split printed (b_ x_ q_ e_). -/
section
namespace Go.Eng.YtimpfhokacfobaaDoor
open Go Go.Eng Go.Proofs
variable (W : World)
set_option linter.unusedSimpArgs false
set_option maxRecDepth 100000
set_option linter.unusedVariables false
set_option maxHeartbeats 4000000
theorem wrSs_cnt : ∀ ks : List Spl, ks.length ≤ (wrSs ks).length
  | [] => Nat.zero_le _
  | k :: ks => by
    have := wrSs_cnt ks
    rw [wrSs]
    simp only [List.length_append, List.length_cons]
    omega
theorem writeS_ok (hN : Nums W) (b : Nat) (t : Spl) : ∀ (way : Int) (c : Nat) (l : List UInt8), t.right way → l.length + (wrS t).length ≤ 70368744177664 →
    ACalls Tryd.prog W 23 [.tpt 65 2 b, encSpl t] (bldS b c l) (Gives (fun _ : Nat => .tup []) (fun c => bldS b c (l ++ wrS t)) (fun _ => True)) := by
  induction t using spl_induct with
  | h w p s ks ih =>
    intro way c l hr hb
    rw [right_mk] at hr
    obtain ⟨hs, hr⟩ := hr
    rw [wrS_mk] at hb
    rw [wrS_mk, encSpl_mk]
    have hsl := (itoa_dig hs).2.1
    rcases hr with ⟨h0, hk, hp⟩ | ⟨hw, -, hk2, hp, hkr⟩
    · subst h0 hk
      rw [if_pos rfl] at *
      have hpl := (itoa_dig hp).2.1
      have hip := itoa_ok W hN p (by unfold i64ok; omega)
      have hpn := itoa_ne hp
      clear ih
      rw [List.length_append] at hb
      refine acalls_of_vc (drawOk W) Tryd.func23 rfl (by decide) (by decide) rfl ?_
      (refine g0_ ?_; repeat ((first | refine n1_ fun b_ => ?_ | refine n2_ fun b_ => ?_ | refine Nat1.mk fun q_ hq_ => ?_ | refine em_ fun x_ hx_ => ?_ | refine Elem1.mk fun e_ he_ => ?_); refine g0_ ?_))
      refine (hip).use ?_; (refine g0_ ?_; repeat ((first | refine n1_ fun b_ => ?_ | refine n2_ fun b_ => ?_ | refine Nat1.mk fun q_ hq_ => ?_ | refine em_ fun x_ hx_ => ?_ | refine Elem1.mk fun e_ he_ => ?_); refine g0_ ?_))
      (refine g1_ ?_; repeat ((first | refine n1_ fun b_ => ?_ | refine n2_ fun b_ => ?_ | refine Nat1.mk fun q_ hq_ => ?_ | refine em_ fun x_ hx_ => ?_ | refine Elem1.mk fun e_ he_ => ?_); refine g1_ ?_))
      refine ACalls.lendEnd (r := _ :: []) (writeString_ok W b c l (Lib.itoa p) hpn (by omega) (by omega)) (.refl _) ?_
      rintro c' -
      rw [← List.append_assoc]
      by_cases h1 : s = 1
      · subst h1
        rw [show sizeS 1 = [] from rfl, List.append_nil] at *
        (refine g0_ ?_; repeat ((first | refine n1_ fun b_ => ?_ | refine n2_ fun b_ => ?_ | refine Nat1.mk fun q_ hq_ => ?_ | refine em_ fun x_ hx_ => ?_ | refine Elem1.mk fun e_ he_ => ?_); refine g0_ ?_))
        (refine g1_ ?_; repeat ((first | refine n1_ fun b_ => ?_ | refine n2_ fun b_ => ?_ | refine Nat1.mk fun q_ hq_ => ?_ | refine em_ fun x_ hx_ => ?_ | refine Elem1.mk fun e_ he_ => ?_); refine g1_ ?_))
        exact ⟨c', trivial, rfl, ⟨[_], List.perm_append_comm⟩⟩
      · have hsz : sizeS s = 42 :: Lib.itoa s := if_neg h1
        rw [hsz] at *
        have his := itoa_ok W hN s (by unfold i64ok; omega)
        (refine g0_ ?_; repeat ((first | refine n1_ fun b_ => ?_ | refine n2_ fun b_ => ?_ | refine Nat1.mk fun q_ hq_ => ?_ | refine em_ fun x_ hx_ => ?_ | refine Elem1.mk fun e_ he_ => ?_); refine g0_ ?_))
        (refine g1_ ?_; repeat ((first | refine n1_ fun b_ => ?_ | refine n2_ fun b_ => ?_ | refine Nat1.mk fun q_ hq_ => ?_ | refine em_ fun x_ hx_ => ?_ | refine Elem1.mk fun e_ he_ => ?_); refine g1_ ?_))
        refine (his).use ?_; (refine g0_ ?_; repeat ((first | refine n1_ fun b_ => ?_ | refine n2_ fun b_ => ?_ | refine Nat1.mk fun q_ hq_ => ?_ | refine em_ fun x_ hx_ => ?_ | refine Elem1.mk fun e_ he_ => ?_); refine g0_ ?_))
        (refine g1_ ?_; repeat ((first | refine n1_ fun b_ => ?_ | refine n2_ fun b_ => ?_ | refine Nat1.mk fun q_ hq_ => ?_ | refine em_ fun x_ hx_ => ?_ | refine Elem1.mk fun e_ he_ => ?_); refine g1_ ?_))
        refine ACalls.lendEnd (r := _ :: []) (writeString_ok W b c' (l ++ Lib.itoa p) (42 :: Lib.itoa s) (by simp) (by simp only [List.length_cons]; omega) (by simp only [List.length_append, List.length_cons, List.length_nil] at *; omega)) (.refl _) ?_
        rintro c2 -
        (refine g0_ ?_; repeat ((first | refine n1_ fun b_ => ?_ | refine n2_ fun b_ => ?_ | refine Nat1.mk fun q_ hq_ => ?_ | refine em_ fun x_ hx_ => ?_ | refine Elem1.mk fun e_ he_ => ?_); refine g0_ ?_))
        exact ⟨c2, trivial, rfl, ⟨[_], List.perm_append_comm⟩⟩
    · have hw0 : w ≠ 0 := by omega
      rw [if_neg hw0] at *
      subst hp
      have hbl : l.length + (wrSs ks).length + 3 + (sizeS s).length ≤ 70368744177664 + 2 := by
        simp only [List.length_append, List.length_cons, List.length_nil, List.length_drop] at hb
        omega
      have hkc := wrSs_cnt ks
      have hkm : (ks.map encSpl).length = ks.length := List.length_map _
      rcases hw with rfl | rfl
      · refine acalls_of_vc (drawOk W) Tryd.func23 rfl (by decide) (by decide) rfl ?_
        (refine g0_ ?_; repeat ((first | refine n1_ fun b_ => ?_ | refine n2_ fun b_ => ?_ | refine Nat1.mk fun q_ hq_ => ?_ | refine em_ fun x_ hx_ => ?_ | refine Elem1.mk fun e_ he_ => ?_); refine g0_ ?_))
        refine ACalls.lendEnd (r := _ :: []) (writeByte_ok W b c l 123 (by omega)) (.refl _) ?_
        rintro c' -
        (refine g0_ ?_; repeat ((first | refine n1_ fun b_ => ?_ | refine n2_ fun b_ => ?_ | refine Nat1.mk fun q_ hq_ => ?_ | refine em_ fun x_ hx_ => ?_ | refine Elem1.mk fun e_ he_ => ?_); refine g0_ ?_))
        obtain ⟨bX, rfl⟩ : ∃ z, z = b_ := ⟨_, rfl⟩
        refine' loopI (α := Nat × Nat × (List UInt8)) (fun (i, c, a) => [(26, .int .i64 i)]) [(0, _), (3, _), (4, _), (24, _), (25, _)] (fun (i, c, a) => [⟨bX, .row 4 [.agg [.int .i64 1, .int .i64 0, .int .i64 s, .sl 4 (ks.map encSpl)]] 0⟩] ++ bldS b c a) (fun (i, c, a) => i ≤ ks.length ∧ a = (l ++ [123]) ++ (wrSs (ks.take i)).drop 1) (fun (i, c, a) => ks.length - i) (0, c', l ++ [123]) ?_ ?_
        · exact ⟨Nat.zero_le _, by rw [List.take_zero]; simp [wrSs]⟩
        rintro ⟨i, c2, a⟩ ⟨hi, ha⟩
        by_cases hik : i = ks.length
        · subst hik
          rw [List.take_length] at ha
          have hw1 : 1 ≤ (wrSs ks).length := by
            cases ks with
            | nil => simp at hk2
            | cons y ys => rw [wrSs]; simp
          have hal : a.length ≤ l.length + (wrSs ks).length := by rw [ha]; simp only [List.length_append, List.length_cons, List.length_nil, List.length_drop]; omega
          (refine g0_ ?_; repeat ((first | refine n1_ fun b_ => ?_ | refine n2_ fun b_ => ?_ | refine Nat1.mk fun q_ hq_ => ?_ | refine em_ fun x_ hx_ => ?_ | refine Elem1.mk fun e_ he_ => ?_); refine g0_ ?_))
          (refine g1_ ?_; repeat ((first | refine n1_ fun b_ => ?_ | refine n2_ fun b_ => ?_ | refine Nat1.mk fun q_ hq_ => ?_ | refine em_ fun x_ hx_ => ?_ | refine Elem1.mk fun e_ he_ => ?_); refine g1_ ?_))
          refine ACalls.lendEnd (r := _ :: []) (writeByte_ok W b c2 a 125 (by omega)) (.refl _) ?_
          rintro c' -
          have e : l ++ ((opnS 1 :: ((wrSs ks).drop 1 ++ [clsS 1])) ++ sizeS s) = (a ++ [125]) ++ sizeS s := by
            rw [show opnS 1 = 123 from rfl, show clsS 1 = 125 from rfl, ha]
            simp
          rw [e]
          have hbl2 : (a ++ [125]).length + (sizeS s).length ≤ 70368744177664 := by rw [List.length_append, List.length_singleton]; omega
          generalize a ++ [125] = L at *
          clear hb hbl
          by_cases h1 : s = 1
          · subst h1
            rw [show sizeS 1 = [] from rfl, List.append_nil] at *
            (refine g0_ ?_; repeat ((first | refine n1_ fun b_ => ?_ | refine n2_ fun b_ => ?_ | refine Nat1.mk fun q_ hq_ => ?_ | refine em_ fun x_ hx_ => ?_ | refine Elem1.mk fun e_ he_ => ?_); refine g0_ ?_))
            (refine g1_ ?_; repeat ((first | refine n1_ fun b_ => ?_ | refine n2_ fun b_ => ?_ | refine Nat1.mk fun q_ hq_ => ?_ | refine em_ fun x_ hx_ => ?_ | refine Elem1.mk fun e_ he_ => ?_); refine g1_ ?_))
            exact ⟨c', trivial, rfl, ⟨[_], List.perm_append_comm⟩⟩
          · have hsz : sizeS s = 42 :: Lib.itoa s := if_neg h1
            rw [hsz] at *
            have his := itoa_ok W hN s (by unfold i64ok; omega)
            (refine g0_ ?_; repeat ((first | refine n1_ fun b_ => ?_ | refine n2_ fun b_ => ?_ | refine Nat1.mk fun q_ hq_ => ?_ | refine em_ fun x_ hx_ => ?_ | refine Elem1.mk fun e_ he_ => ?_); refine g0_ ?_))
            (refine g1_ ?_; repeat ((first | refine n1_ fun b_ => ?_ | refine n2_ fun b_ => ?_ | refine Nat1.mk fun q_ hq_ => ?_ | refine em_ fun x_ hx_ => ?_ | refine Elem1.mk fun e_ he_ => ?_); refine g1_ ?_))
            refine (his).use ?_; (refine g0_ ?_; repeat ((first | refine n1_ fun b_ => ?_ | refine n2_ fun b_ => ?_ | refine Nat1.mk fun q_ hq_ => ?_ | refine em_ fun x_ hx_ => ?_ | refine Elem1.mk fun e_ he_ => ?_); refine g0_ ?_))
            (refine g1_ ?_; repeat ((first | refine n1_ fun b_ => ?_ | refine n2_ fun b_ => ?_ | refine Nat1.mk fun q_ hq_ => ?_ | refine em_ fun x_ hx_ => ?_ | refine Elem1.mk fun e_ he_ => ?_); refine g1_ ?_))
            refine ACalls.lendEnd (r := _ :: []) (writeString_ok W b c' (L) (42 :: Lib.itoa s) (by simp) (by simp only [List.length_cons]; omega) (by simp only [List.length_append, List.length_cons, List.length_nil] at *; omega)) (.refl _) ?_
            rintro c2 -
            (refine g0_ ?_; repeat ((first | refine n1_ fun b_ => ?_ | refine n2_ fun b_ => ?_ | refine Nat1.mk fun q_ hq_ => ?_ | refine em_ fun x_ hx_ => ?_ | refine Elem1.mk fun e_ he_ => ?_); refine g0_ ?_))
            exact ⟨c2, trivial, rfl, ⟨[_], List.perm_append_comm⟩⟩
        · obtain ⟨k, hk⟩ : ∃ k, ks[i]? = some k := ⟨ks[i]'(by omega), List.getElem?_eq_getElem _⟩
          have hsn := wrSs_snoc hk
          have hle : (wrSs (ks.take (i + 1))).length ≤ (wrSs ks).length := by
            have := congrArg List.length (wrSs_app (ks.take (i + 1)) (ks.drop (i + 1)))
            rw [List.take_append_drop, List.length_append] at this
            omega
          rw [hsn, List.length_append, List.length_cons] at hle
          have hal : a.length ≤ l.length + 1 + (wrSs (ks.take i)).length := by rw [ha]; simp only [List.length_append, List.length_cons, List.length_nil, List.length_drop]; omega
          have hwk := fun c a h => ih k (List.mem_of_getElem? hk) 1 c a (hkr k (List.mem_of_getElem? hk)) h
          obtain ⟨kw, kp, kz, kk⟩ := k
          rw [encSpl] at hwk
          generalize hTX : wrS (.mk kw kp kz kk) = TX at *
          by_cases hi0 : i = 0
          · have ht0 : wrSs (ks.take i) = [] := by rw [hi0, List.take_zero]; rfl
            have hwk := hwk c2 a (by omega)
            (refine g0_ ?_; repeat ((first | refine n1_ fun b_ => ?_ | refine n2_ fun b_ => ?_ | refine Nat1.mk fun q_ hq_ => ?_ | refine em_ fun x_ hx_ => ?_ | refine Elem1.mk fun e_ he_ => ?_); refine g0_ ?_))
            (refine g1_ ?_; repeat ((first | refine n1_ fun b_ => ?_ | refine n2_ fun b_ => ?_ | refine Nat1.mk fun q_ hq_ => ?_ | refine em_ fun x_ hx_ => ?_ | refine Elem1.mk fun e_ he_ => ?_); refine g1_ ?_))
            refine ACalls.lendEnd (r := _ :: _ :: []) hwk (.refl _) ?_
            rintro c3 -
            (refine g0_ ?_; repeat ((first | refine n1_ fun b_ => ?_ | refine n2_ fun b_ => ?_ | refine Nat1.mk fun q_ hq_ => ?_ | refine em_ fun x_ hx_ => ?_ | refine Elem1.mk fun e_ he_ => ?_); refine g0_ ?_))
            refine nx_ (i + 1, c3, a ++ TX) ?_ ?_
            · exact ⟨by omega, by rw [hsn, ha, ht0]; simp⟩
            · ((try dsimp only); (try simp only [List.length_drop, List.length_take, List.length_append, List.length_cons, List.length_nil, List.length_map] at *); omega)
          · have hne : ∃ z Z, wrSs (ks.take i) = z :: Z := by
              obtain ⟨y, ys, hys⟩ : ∃ y ys, ks.take i = y :: ys := by
                cases hh : ks.take i with
                | nil => have := congrArg List.length hh; rw [List.length_take, List.length_nil] at this; omega
                | cons y ys => exact ⟨y, ys, rfl⟩
              exact ⟨44, wrS y ++ wrSs ys, by rw [hys, wrSs]; rfl⟩
            obtain ⟨z, Z, hz⟩ := hne
            have hwk := fun c => hwk c (a ++ [44]) (by rw [List.length_append, List.length_singleton]; omega)
            (refine g0_ ?_; repeat ((first | refine n1_ fun b_ => ?_ | refine n2_ fun b_ => ?_ | refine Nat1.mk fun q_ hq_ => ?_ | refine em_ fun x_ hx_ => ?_ | refine Elem1.mk fun e_ he_ => ?_); refine g0_ ?_))
            (refine g1_ ?_; repeat ((first | refine n1_ fun b_ => ?_ | refine n2_ fun b_ => ?_ | refine Nat1.mk fun q_ hq_ => ?_ | refine em_ fun x_ hx_ => ?_ | refine Elem1.mk fun e_ he_ => ?_); refine g1_ ?_))
            refine ACalls.lendEnd (r := _ :: _ :: []) (writeByte_ok W b c2 a 44 (by omega)) (.refl _) ?_
            rintro c3 -
            (refine g0_ ?_; repeat ((first | refine n1_ fun b_ => ?_ | refine n2_ fun b_ => ?_ | refine Nat1.mk fun q_ hq_ => ?_ | refine em_ fun x_ hx_ => ?_ | refine Elem1.mk fun e_ he_ => ?_); refine g0_ ?_))
            refine ACalls.lendEnd (r := _ :: _ :: []) (hwk c3) (.refl _) ?_
            rintro c4 -
            (refine g0_ ?_; repeat ((first | refine n1_ fun b_ => ?_ | refine n2_ fun b_ => ?_ | refine Nat1.mk fun q_ hq_ => ?_ | refine em_ fun x_ hx_ => ?_ | refine Elem1.mk fun e_ he_ => ?_); refine g0_ ?_))
            refine nx_ (i + 1, c4, a ++ [44] ++ TX) ?_ ?_
            · exact ⟨by omega, by rw [hsn, ha, hz]; simp⟩
            · ((try dsimp only); (try simp only [List.length_drop, List.length_take, List.length_append, List.length_cons, List.length_nil, List.length_map] at *); omega)
      · refine acalls_of_vc (drawOk W) Tryd.func23 rfl (by decide) (by decide) rfl ?_
        (refine g0_ ?_; repeat ((first | refine n1_ fun b_ => ?_ | refine n2_ fun b_ => ?_ | refine Nat1.mk fun q_ hq_ => ?_ | refine em_ fun x_ hx_ => ?_ | refine Elem1.mk fun e_ he_ => ?_); refine g0_ ?_))
        refine ACalls.lendEnd (r := _ :: []) (writeByte_ok W b c l 91 (by omega)) (.refl _) ?_
        rintro c' -
        (refine g0_ ?_; repeat ((first | refine n1_ fun b_ => ?_ | refine n2_ fun b_ => ?_ | refine Nat1.mk fun q_ hq_ => ?_ | refine em_ fun x_ hx_ => ?_ | refine Elem1.mk fun e_ he_ => ?_); refine g0_ ?_))
        obtain ⟨bX, rfl⟩ : ∃ z, z = b_ := ⟨_, rfl⟩
        refine' loopI (α := Nat × Nat × (List UInt8)) (fun (i, c, a) => [(26, .int .i64 i)]) [(0, _), (3, _), (4, _), (24, _), (25, _)] (fun (i, c, a) => [⟨bX, .row 4 [.agg [.int .i64 2, .int .i64 0, .int .i64 s, .sl 4 (ks.map encSpl)]] 0⟩] ++ bldS b c a) (fun (i, c, a) => i ≤ ks.length ∧ a = (l ++ [91]) ++ (wrSs (ks.take i)).drop 1) (fun (i, c, a) => ks.length - i) (0, c', l ++ [91]) ?_ ?_
        · exact ⟨Nat.zero_le _, by rw [List.take_zero]; simp [wrSs]⟩
        rintro ⟨i, c2, a⟩ ⟨hi, ha⟩
        by_cases hik : i = ks.length
        · subst hik
          rw [List.take_length] at ha
          have hw1 : 1 ≤ (wrSs ks).length := by
            cases ks with
            | nil => simp at hk2
            | cons y ys => rw [wrSs]; simp
          have hal : a.length ≤ l.length + (wrSs ks).length := by rw [ha]; simp only [List.length_append, List.length_cons, List.length_nil, List.length_drop]; omega
          (refine g0_ ?_; repeat ((first | refine n1_ fun b_ => ?_ | refine n2_ fun b_ => ?_ | refine Nat1.mk fun q_ hq_ => ?_ | refine em_ fun x_ hx_ => ?_ | refine Elem1.mk fun e_ he_ => ?_); refine g0_ ?_))
          (refine g1_ ?_; repeat ((first | refine n1_ fun b_ => ?_ | refine n2_ fun b_ => ?_ | refine Nat1.mk fun q_ hq_ => ?_ | refine em_ fun x_ hx_ => ?_ | refine Elem1.mk fun e_ he_ => ?_); refine g1_ ?_))
          refine ACalls.lendEnd (r := _ :: []) (writeByte_ok W b c2 a 93 (by omega)) (.refl _) ?_
          rintro c' -
          have e : l ++ ((opnS 2 :: ((wrSs ks).drop 1 ++ [clsS 2])) ++ sizeS s) = (a ++ [93]) ++ sizeS s := by
            rw [show opnS 2 = 91 from rfl, show clsS 2 = 93 from rfl, ha]
            simp
          rw [e]
          have hbl2 : (a ++ [93]).length + (sizeS s).length ≤ 70368744177664 := by rw [List.length_append, List.length_singleton]; omega
          generalize a ++ [93] = L at *
          clear hb hbl
          by_cases h1 : s = 1
          · subst h1
            rw [show sizeS 1 = [] from rfl, List.append_nil] at *
            (refine g0_ ?_; repeat ((first | refine n1_ fun b_ => ?_ | refine n2_ fun b_ => ?_ | refine Nat1.mk fun q_ hq_ => ?_ | refine em_ fun x_ hx_ => ?_ | refine Elem1.mk fun e_ he_ => ?_); refine g0_ ?_))
            (refine g1_ ?_; repeat ((first | refine n1_ fun b_ => ?_ | refine n2_ fun b_ => ?_ | refine Nat1.mk fun q_ hq_ => ?_ | refine em_ fun x_ hx_ => ?_ | refine Elem1.mk fun e_ he_ => ?_); refine g1_ ?_))
            exact ⟨c', trivial, rfl, ⟨[_], List.perm_append_comm⟩⟩
          · have hsz : sizeS s = 42 :: Lib.itoa s := if_neg h1
            rw [hsz] at *
            have his := itoa_ok W hN s (by unfold i64ok; omega)
            (refine g0_ ?_; repeat ((first | refine n1_ fun b_ => ?_ | refine n2_ fun b_ => ?_ | refine Nat1.mk fun q_ hq_ => ?_ | refine em_ fun x_ hx_ => ?_ | refine Elem1.mk fun e_ he_ => ?_); refine g0_ ?_))
            (refine g1_ ?_; repeat ((first | refine n1_ fun b_ => ?_ | refine n2_ fun b_ => ?_ | refine Nat1.mk fun q_ hq_ => ?_ | refine em_ fun x_ hx_ => ?_ | refine Elem1.mk fun e_ he_ => ?_); refine g1_ ?_))
            refine (his).use ?_; (refine g0_ ?_; repeat ((first | refine n1_ fun b_ => ?_ | refine n2_ fun b_ => ?_ | refine Nat1.mk fun q_ hq_ => ?_ | refine em_ fun x_ hx_ => ?_ | refine Elem1.mk fun e_ he_ => ?_); refine g0_ ?_))
            (refine g1_ ?_; repeat ((first | refine n1_ fun b_ => ?_ | refine n2_ fun b_ => ?_ | refine Nat1.mk fun q_ hq_ => ?_ | refine em_ fun x_ hx_ => ?_ | refine Elem1.mk fun e_ he_ => ?_); refine g1_ ?_))
            refine ACalls.lendEnd (r := _ :: []) (writeString_ok W b c' (L) (42 :: Lib.itoa s) (by simp) (by simp only [List.length_cons]; omega) (by simp only [List.length_append, List.length_cons, List.length_nil] at *; omega)) (.refl _) ?_
            rintro c2 -
            (refine g0_ ?_; repeat ((first | refine n1_ fun b_ => ?_ | refine n2_ fun b_ => ?_ | refine Nat1.mk fun q_ hq_ => ?_ | refine em_ fun x_ hx_ => ?_ | refine Elem1.mk fun e_ he_ => ?_); refine g0_ ?_))
            exact ⟨c2, trivial, rfl, ⟨[_], List.perm_append_comm⟩⟩
        · obtain ⟨k, hk⟩ : ∃ k, ks[i]? = some k := ⟨ks[i]'(by omega), List.getElem?_eq_getElem _⟩
          have hsn := wrSs_snoc hk
          have hle : (wrSs (ks.take (i + 1))).length ≤ (wrSs ks).length := by
            have := congrArg List.length (wrSs_app (ks.take (i + 1)) (ks.drop (i + 1)))
            rw [List.take_append_drop, List.length_append] at this
            omega
          rw [hsn, List.length_append, List.length_cons] at hle
          have hal : a.length ≤ l.length + 1 + (wrSs (ks.take i)).length := by rw [ha]; simp only [List.length_append, List.length_cons, List.length_nil, List.length_drop]; omega
          have hwk := fun c a h => ih k (List.mem_of_getElem? hk) 2 c a (hkr k (List.mem_of_getElem? hk)) h
          obtain ⟨kw, kp, kz, kk⟩ := k
          rw [encSpl] at hwk
          generalize hTX : wrS (.mk kw kp kz kk) = TX at *
          by_cases hi0 : i = 0
          · have ht0 : wrSs (ks.take i) = [] := by rw [hi0, List.take_zero]; rfl
            have hwk := hwk c2 a (by omega)
            (refine g0_ ?_; repeat ((first | refine n1_ fun b_ => ?_ | refine n2_ fun b_ => ?_ | refine Nat1.mk fun q_ hq_ => ?_ | refine em_ fun x_ hx_ => ?_ | refine Elem1.mk fun e_ he_ => ?_); refine g0_ ?_))
            (refine g1_ ?_; repeat ((first | refine n1_ fun b_ => ?_ | refine n2_ fun b_ => ?_ | refine Nat1.mk fun q_ hq_ => ?_ | refine em_ fun x_ hx_ => ?_ | refine Elem1.mk fun e_ he_ => ?_); refine g1_ ?_))
            refine ACalls.lendEnd (r := _ :: _ :: []) hwk (.refl _) ?_
            rintro c3 -
            (refine g0_ ?_; repeat ((first | refine n1_ fun b_ => ?_ | refine n2_ fun b_ => ?_ | refine Nat1.mk fun q_ hq_ => ?_ | refine em_ fun x_ hx_ => ?_ | refine Elem1.mk fun e_ he_ => ?_); refine g0_ ?_))
            refine nx_ (i + 1, c3, a ++ TX) ?_ ?_
            · exact ⟨by omega, by rw [hsn, ha, ht0]; simp⟩
            · ((try dsimp only); (try simp only [List.length_drop, List.length_take, List.length_append, List.length_cons, List.length_nil, List.length_map] at *); omega)
          · have hne : ∃ z Z, wrSs (ks.take i) = z :: Z := by
              obtain ⟨y, ys, hys⟩ : ∃ y ys, ks.take i = y :: ys := by
                cases hh : ks.take i with
                | nil => have := congrArg List.length hh; rw [List.length_take, List.length_nil] at this; omega
                | cons y ys => exact ⟨y, ys, rfl⟩
              exact ⟨44, wrS y ++ wrSs ys, by rw [hys, wrSs]; rfl⟩
            obtain ⟨z, Z, hz⟩ := hne
            have hwk := fun c => hwk c (a ++ [44]) (by rw [List.length_append, List.length_singleton]; omega)
            (refine g0_ ?_; repeat ((first | refine n1_ fun b_ => ?_ | refine n2_ fun b_ => ?_ | refine Nat1.mk fun q_ hq_ => ?_ | refine em_ fun x_ hx_ => ?_ | refine Elem1.mk fun e_ he_ => ?_); refine g0_ ?_))
            (refine g1_ ?_; repeat ((first | refine n1_ fun b_ => ?_ | refine n2_ fun b_ => ?_ | refine Nat1.mk fun q_ hq_ => ?_ | refine em_ fun x_ hx_ => ?_ | refine Elem1.mk fun e_ he_ => ?_); refine g1_ ?_))
            refine ACalls.lendEnd (r := _ :: _ :: []) (writeByte_ok W b c2 a 44 (by omega)) (.refl _) ?_
            rintro c3 -
            (refine g0_ ?_; repeat ((first | refine n1_ fun b_ => ?_ | refine n2_ fun b_ => ?_ | refine Nat1.mk fun q_ hq_ => ?_ | refine em_ fun x_ hx_ => ?_ | refine Elem1.mk fun e_ he_ => ?_); refine g0_ ?_))
            refine ACalls.lendEnd (r := _ :: _ :: []) (hwk c3) (.refl _) ?_
            rintro c4 -
            (refine g0_ ?_; repeat ((first | refine n1_ fun b_ => ?_ | refine n2_ fun b_ => ?_ | refine Nat1.mk fun q_ hq_ => ?_ | refine em_ fun x_ hx_ => ?_ | refine Elem1.mk fun e_ he_ => ?_); refine g0_ ?_))
            refine nx_ (i + 1, c4, a ++ [44] ++ TX) ?_ ?_
            · exact ⟨by omega, by rw [hsn, ha, hz]; simp⟩
            · ((try dsimp only); (try simp only [List.length_drop, List.length_take, List.length_append, List.length_cons, List.length_nil, List.length_map] at *); omega)
/-- What Print gives. -/
def printR (t : Spl) : List UInt8 × Int := if (visS t 0 (0, [])).1 ≠ 0 then ([], (visS t 0 (0, [])).1) else (wrS t, 0)
theorem printP_ok (hN : Nums W) (t : Spl) (ht : t.ok) (h0 : (visS t 0 (0, [])).1 = 0) : Pure Tryd.prog W 7 [encSpl t] (.tup [.str (wrS t), .int .i64 0]) := by
  have hc := checkS_ok W t ht
  obtain ⟨hr, -, h12, -⟩ := vis_right h0
  have hl := wrS_len t 0 hr
  have hw := fun b => writeS_ok W hN b t 0 0 [] hr (by simp only [List.length_nil]; omega)
  rw [h0] at hc
  clear h0 hr ht
  simp only [List.nil_append] at hw
  generalize wrS t = S at *
  obtain ⟨w, p, s, ks⟩ := t
  rw [encSpl_mk] at *
  refine Pure.of (acalls_of_vc (drawOk W) Tryd.func7 rfl (by decide) (by decide) rfl ?_)
  (refine g0_ ?_; repeat ((first | refine n1_ fun b_ => ?_ | refine n2_ fun b_ => ?_ | refine Nat1.mk fun q_ hq_ => ?_ | refine em_ fun x_ hx_ => ?_ | refine Elem1.mk fun e_ he_ => ?_); refine g0_ ?_))
  refine (hc).use ?_; (refine g0_ ?_; repeat ((first | refine n1_ fun b_ => ?_ | refine n2_ fun b_ => ?_ | refine Nat1.mk fun q_ hq_ => ?_ | refine em_ fun x_ hx_ => ?_ | refine Elem1.mk fun e_ he_ => ?_); refine g0_ ?_))
  (refine g0_ ?_; repeat ((first | refine n1_ fun b_ => ?_ | refine n2_ fun b_ => ?_ | refine Nat1.mk fun q_ hq_ => ?_ | refine em_ fun x_ hx_ => ?_ | refine Elem1.mk fun e_ he_ => ?_); refine g0_ ?_))
  refine ACalls.lendEnd (r := _ :: []) (hw b_) (.swap _ _ _) ?_
  rintro c -
  (refine g0_ ?_; repeat ((first | refine n1_ fun b_ => ?_ | refine n2_ fun b_ => ?_ | refine Nat1.mk fun q_ hq_ => ?_ | refine em_ fun x_ hx_ => ?_ | refine Elem1.mk fun e_ he_ => ?_); refine g0_ ?_))
  refine ACalls.lendEnd (r := _ :: []) (string_ok W b_ c S (by omega)) (.refl _) ?_
  rintro _ -
  (refine g0_ ?_; repeat ((first | refine n1_ fun b_ => ?_ | refine n2_ fun b_ => ?_ | refine Nat1.mk fun q_ hq_ => ?_ | refine em_ fun x_ hx_ => ?_ | refine Elem1.mk fun e_ he_ => ?_); refine g0_ ?_))
  exact .refl _
end Go.Eng.YtimpfhokacfobaaDoor
end
