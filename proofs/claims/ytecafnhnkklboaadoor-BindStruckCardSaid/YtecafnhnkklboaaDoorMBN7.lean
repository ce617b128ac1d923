/- Texts put together: BndX. -/
import Derived.Test.YtecafnhnkklboaaDoorMBN5
import Derived.Test.YtecafnhnkklboaaDoorMKY10
/- The law BindStruck (b_ x_ q_ e_). -/
section
namespace Go.Eng.YtecafnhnkklboaaDoor
open Go Go.Eng Go.Proofs Go.Maps
variable (W : World)
set_option linter.unusedSimpArgs false
set_option maxRecDepth 100000
set_option linter.unusedVariables false
set_option maxHeartbeats 8000000
theorem tell1_ok (hN : Nums W) (k : Key) (hk : k.ok) (pad : Bool) (a : List UInt8) (b1 b2 : Nat) (hal : a.length ≤ 1000000000) :
    ACalls Tryd.prog W 16 [.agg [.int .i64 k.kind, .int .i32 k.r, .int .i64 k.n, .int .i64 k.held], .bref b1 0, .bref b2 0] [⟨b1, .row 1 [.str a] 0⟩, ⟨b2, .row 1 [.bool pad] 0⟩]
      (Gives (fun _ : Unit => .tup []) (fun _ => [⟨b1, .row 1 [.str (a ++ tellK k pad)] 0⟩, ⟨b2, .row 1 [.bool pad] 0⟩]) (fun _ => True)) := by
  have hik : Pure Tryd.prog W 17 [.agg [.int .i64 k.kind, .int .i32 k.r, .int .i64 k.n, .int .i64 k.held]] (.bool (decide (isKey k))) := isKeyR_ok W hN k hk
  have htl := tell_len k pad
  unfold tellK at htl ⊢
  by_cases h : isKey k
  · have hkb : Pure Tryd.prog W 18 [.agg [.int .i64 k.kind, .int .i32 k.r, .int .i64 k.n, .int .i64 k.held], .bool pad] (.str (writeK k pad)) := keyBytes_ok W hN k hk pad h
    rw [decide_eq_true h] at hik
    rw [if_pos h] at htl ⊢
    refine acalls_of_vc (drawOk W) Tryd.func16 rfl (by decide) (by decide) rfl ?_
    (refine g0_ ?_; repeat ((first | refine n1_ fun b_ => ?_ | refine n2_ fun b_ => ?_ | refine Nat1.mk fun q_ hq_ => ?_ | refine em_ fun x_ hx_ => ?_ | refine Elem1.mk fun e_ he_ => ?_); refine g0_ ?_))
    refine (hik).use ?_; (refine g0_ ?_; repeat ((first | refine n1_ fun b_ => ?_ | refine n2_ fun b_ => ?_ | refine Nat1.mk fun q_ hq_ => ?_ | refine em_ fun x_ hx_ => ?_ | refine Elem1.mk fun e_ he_ => ?_); refine g0_ ?_))
    (refine g1_ ?_; repeat ((first | refine n1_ fun b_ => ?_ | refine n2_ fun b_ => ?_ | refine Nat1.mk fun q_ hq_ => ?_ | refine em_ fun x_ hx_ => ?_ | refine Elem1.mk fun e_ he_ => ?_); refine g1_ ?_))
    refine head_ ?_; (refine g0_ ?_; repeat ((first | refine n1_ fun b_ => ?_ | refine n2_ fun b_ => ?_ | refine Nat1.mk fun q_ hq_ => ?_ | refine em_ fun x_ hx_ => ?_ | refine Elem1.mk fun e_ he_ => ?_); refine g0_ ?_))
    refine ⟨_, (hkb).quiet, ?_⟩; (refine g0_ ?_; repeat ((first | refine n1_ fun b_ => ?_ | refine n2_ fun b_ => ?_ | refine Nat1.mk fun q_ hq_ => ?_ | refine em_ fun x_ hx_ => ?_ | refine Elem1.mk fun e_ he_ => ?_); refine g0_ ?_))
    (refine g1_ ?_; repeat ((first | refine n1_ fun b_ => ?_ | refine n2_ fun b_ => ?_ | refine Nat1.mk fun q_ hq_ => ?_ | refine em_ fun x_ hx_ => ?_ | refine Elem1.mk fun e_ he_ => ?_); refine g1_ ?_))
    exact ⟨(), trivial, rfl, by (first | exact ⟨_, .refl _⟩ | exact wkMem.rfl' | exact ⟨_, .swap _ _ _⟩ | (repeat (first | exact wkMem.nil _ | exact wkMem.rfl' | exact wk_snoc _ _ _ | exact wk_fam (by assumption) _ _ _ | exact wk_famN (by assumption) _ _ _ | (apply wkMem.cons; (case' hl => (repeat (first | exact .here _ _ _ | apply Look.there)))) | apply wkMem.skip)))⟩
  · rw [decide_eq_false h] at hik
    rw [if_neg h, List.append_nil] at *
    refine acalls_of_vc (drawOk W) Tryd.func16 rfl (by decide) (by decide) rfl ?_
    (refine g0_ ?_; repeat ((first | refine n1_ fun b_ => ?_ | refine n2_ fun b_ => ?_ | refine Nat1.mk fun q_ hq_ => ?_ | refine em_ fun x_ hx_ => ?_ | refine Elem1.mk fun e_ he_ => ?_); refine g0_ ?_))
    refine (hik).use ?_; (refine g0_ ?_; repeat ((first | refine n1_ fun b_ => ?_ | refine n2_ fun b_ => ?_ | refine Nat1.mk fun q_ hq_ => ?_ | refine em_ fun x_ hx_ => ?_ | refine Elem1.mk fun e_ he_ => ?_); refine g0_ ?_))
    (refine g1_ ?_; repeat ((first | refine n1_ fun b_ => ?_ | refine n2_ fun b_ => ?_ | refine Nat1.mk fun q_ hq_ => ?_ | refine em_ fun x_ hx_ => ?_ | refine Elem1.mk fun e_ he_ => ?_); refine g1_ ?_))
    exact ⟨(), trivial, rfl, by (first | exact ⟨_, .refl _⟩ | exact wkMem.rfl' | exact ⟨_, .swap _ _ _⟩ | (repeat (first | exact wkMem.nil _ | exact wkMem.rfl' | exact wk_snoc _ _ _ | exact wk_fam (by assumption) _ _ _ | exact wk_famN (by assumption) _ _ _ | (apply wkMem.cons; (case' hl => (repeat (first | exact .here _ _ _ | apply Look.there)))) | apply wkMem.skip)))⟩
theorem bindStruck_ok (hK : Keyz W) (hM : MaxJ W) (t : BTab) (hto : t.ok) (l : List Key) (hlo : (∀ k ∈ l, k.ok) ∧ l.length ≤ 17592186044416) (pad armed : Bool) :
    Pure Tryd.prog W 5 [encTab t, .sl 4 (l.map encKey), .bool pad, .bool armed] (.bool true) := by
  obtain ⟨hT, hN, hE⟩ := hK
  obtain ⟨hlk, hll⟩ := hlo
  have hbd := bound_ok W hT hN hE
  have hck := bcheckR_ok W hN hM t hto
  have hs0 := bstruck_ok W hN t hto l hlk hll pad armed
  have hlm : (l.map encKey).length = l.length := List.length_map _
  by_cases h0 : checkT t = 0
  · by_cases h4 : 4000 < l.length
    · have e : struckE t l pad armed = (⟨[], [], false⟩, 2) := by unfold struckE; rw [if_neg (by simpa using h0), if_pos h4]
      rw [e] at hs0
      rw [h0] at hck
      dsimp only at hs0
      unfold encTab at *
      refine Pure.of (acalls_of_vc (drawOk W) Tryd.func5 rfl (by decide) (by decide) rfl ?_)
      (refine g0_ ?_; repeat ((first | refine n1_ fun b_ => ?_ | refine n2_ fun b_ => ?_ | refine Nat1.mk fun q_ hq_ => ?_ | refine em_ fun x_ hx_ => ?_ | refine Elem1.mk fun e_ he_ => ?_); refine g0_ ?_))
      refine (hs0).use ?_; (refine g0_ ?_; repeat ((first | refine n1_ fun b_ => ?_ | refine n2_ fun b_ => ?_ | refine Nat1.mk fun q_ hq_ => ?_ | refine em_ fun x_ hx_ => ?_ | refine Elem1.mk fun e_ he_ => ?_); refine g0_ ?_))
      (refine g0_ ?_; repeat ((first | refine n1_ fun b_ => ?_ | refine n2_ fun b_ => ?_ | refine Nat1.mk fun q_ hq_ => ?_ | refine em_ fun x_ hx_ => ?_ | refine Elem1.mk fun e_ he_ => ?_); refine g0_ ?_))
      refine (hck).use ?_; (refine g0_ ?_; repeat ((first | refine n1_ fun b_ => ?_ | refine n2_ fun b_ => ?_ | refine Nat1.mk fun q_ hq_ => ?_ | refine em_ fun x_ hx_ => ?_ | refine Elem1.mk fun e_ he_ => ?_); refine g0_ ?_))
      (refine g1_ ?_; repeat ((first | refine n1_ fun b_ => ?_ | refine n2_ fun b_ => ?_ | refine Nat1.mk fun q_ hq_ => ?_ | refine em_ fun x_ hx_ => ?_ | refine Elem1.mk fun e_ he_ => ?_); refine g1_ ?_))
      refine (hbd).use ?_; (refine g0_ ?_; repeat ((first | refine n1_ fun b_ => ?_ | refine n2_ fun b_ => ?_ | refine Nat1.mk fun q_ hq_ => ?_ | refine em_ fun x_ hx_ => ?_ | refine Elem1.mk fun e_ he_ => ?_); refine g0_ ?_))
      (refine g1_ ?_; repeat ((first | refine n1_ fun b_ => ?_ | refine n2_ fun b_ => ?_ | refine Nat1.mk fun q_ hq_ => ?_ | refine em_ fun x_ hx_ => ?_ | refine Elem1.mk fun e_ he_ => ?_); refine g1_ ?_))
      refine (hbd).use ?_; (refine g0_ ?_; repeat ((first | refine n1_ fun b_ => ?_ | refine n2_ fun b_ => ?_ | refine Nat1.mk fun q_ hq_ => ?_ | refine em_ fun x_ hx_ => ?_ | refine Elem1.mk fun e_ he_ => ?_); refine g0_ ?_))
      (refine g1_ ?_; repeat ((first | refine n1_ fun b_ => ?_ | refine n2_ fun b_ => ?_ | refine Nat1.mk fun q_ hq_ => ?_ | refine em_ fun x_ hx_ => ?_ | refine Elem1.mk fun e_ he_ => ?_); refine g1_ ?_))
      exact frz_bool (by simp)
    · rw [strk_of pad armed h0 (by omega)] at hs0
      rw [h0] at hck
      have hnb : t.binds.length ≤ 20 := by
        unfold checkT at h0
        split at h0
        · cases h0
        · split at h0
          · cases h0
          · omega
      obtain ⟨hp, hL, -⟩ := hto
      clear h0
      generalize hR : runK2 t pad l armed = R at *
      obtain ⟨rc, rb, ra⟩ := R
      dsimp only at hs0
      have hbm : (t.binds.map encBnd).length = t.binds.length := List.length_map _
      unfold encTab at *
      refine Pure.of (acalls_of_vc (drawOk W) Tryd.func5 rfl (by decide) (by decide) rfl ?_)
      (refine g0_ ?_; repeat ((first | refine n1_ fun b_ => ?_ | refine n2_ fun b_ => ?_ | refine Nat1.mk fun q_ hq_ => ?_ | refine em_ fun x_ hx_ => ?_ | refine Elem1.mk fun e_ he_ => ?_); refine g0_ ?_))
      refine (hs0).use ?_; (refine g0_ ?_; repeat ((first | refine n1_ fun b_ => ?_ | refine n2_ fun b_ => ?_ | refine Nat1.mk fun q_ hq_ => ?_ | refine em_ fun x_ hx_ => ?_ | refine Elem1.mk fun e_ he_ => ?_); refine g0_ ?_))
      (refine g0_ ?_; repeat ((first | refine n1_ fun b_ => ?_ | refine n2_ fun b_ => ?_ | refine Nat1.mk fun q_ hq_ => ?_ | refine em_ fun x_ hx_ => ?_ | refine Elem1.mk fun e_ he_ => ?_); refine g0_ ?_))
      refine (hck).use ?_; (refine g0_ ?_; repeat ((first | refine n1_ fun b_ => ?_ | refine n2_ fun b_ => ?_ | refine Nat1.mk fun q_ hq_ => ?_ | refine em_ fun x_ hx_ => ?_ | refine Elem1.mk fun e_ he_ => ?_); refine g0_ ?_))
      (refine g1_ ?_; repeat ((first | refine n1_ fun b_ => ?_ | refine n2_ fun b_ => ?_ | refine Nat1.mk fun q_ hq_ => ?_ | refine em_ fun x_ hx_ => ?_ | refine Elem1.mk fun e_ he_ => ?_); refine g1_ ?_))
      refine (hbd).use ?_; (refine g0_ ?_; repeat ((first | refine n1_ fun b_ => ?_ | refine n2_ fun b_ => ?_ | refine Nat1.mk fun q_ hq_ => ?_ | refine em_ fun x_ hx_ => ?_ | refine Elem1.mk fun e_ he_ => ?_); refine g0_ ?_))
      (refine g1_ ?_; repeat ((first | refine n1_ fun b_ => ?_ | refine n2_ fun b_ => ?_ | refine Nat1.mk fun q_ hq_ => ?_ | refine em_ fun x_ hx_ => ?_ | refine Elem1.mk fun e_ he_ => ?_); refine g1_ ?_))
      rename_i bt b6
      obtain ⟨by_, rfl⟩ : ∃ b1, b1 = b_ := ⟨_, rfl⟩
      refine' loopI (α := Nat × (List (List UInt8)) × (List PV) × Nat × (List UInt8) × Bool) (fun (i, o, O, bo, a, ar) => [(68, .int .i64 i), (14, accV bo 1 O), (3, .bool ar)]) [(4, _), (9, _), (10, _), (11, _), (12, _), (15, _), (16, _), (66, _), (67, _)] (fun (i, o, O, bo, a, ar) => [⟨bt, .row 5 [.agg [.int .i64 t.pre.kind, .int .i32 t.pre.r, .int .i64 t.pre.n, .int .i64 t.pre.held, .sl 5 (t.binds.map encBnd)]] 0⟩, ⟨b6, .row 1 [.bool pad] 0⟩, ⟨by_, .row 1 [.str a] 0⟩] ++ accM bo 1 O) (fun (i, o, O, bo, a, ar) => i ≤ l.length ∧ runK2 t pad (l.take i) armed = ⟨o, a, ar⟩ ∧ a.length ≤ 40 * i ∧ o.length ≤ 20 * i ∧ O = o.map .str) (fun (i, o, O, bo, a, ar) => l.length - i) (0, [], [], 0, [], armed) ?_ ?_
      · exact ⟨Nat.zero_le _, rfl, Nat.zero_le _, Nat.zero_le _, rfl⟩
      rintro ⟨i, o, O, bo, a, ar⟩ ⟨hi, hr, hal, hol, hO⟩
      by_cases h1 : i = l.length
      · subst h1
        rw [List.take_length, hR] at hr
        cases hr
        have heq := equal_strsB W rc rc (by omega)
        rw [decide_eq_true rfl] at heq
        rcases O with _ | ⟨o0, O⟩
        · (refine g0_ ?_; repeat ((first | refine n1_ fun b_ => ?_ | refine n2_ fun b_ => ?_ | refine Nat1.mk fun q_ hq_ => ?_ | refine em_ fun x_ hx_ => ?_ | refine Elem1.mk fun e_ he_ => ?_); refine g0_ ?_))
          (refine g1_ ?_; repeat ((first | refine n1_ fun b_ => ?_ | refine n2_ fun b_ => ?_ | refine Nat1.mk fun q_ hq_ => ?_ | refine em_ fun x_ hx_ => ?_ | refine Elem1.mk fun e_ he_ => ?_); refine g1_ ?_))
          refine heq.borrow rfl rfl (fun j hj => ?_) ?_
          · match j, hj with
            | 0, _ => exact .refl _
            | 1, _ => exact frz_nil_eq hO
          (refine g1_ ?_; repeat ((first | refine n1_ fun b_ => ?_ | refine n2_ fun b_ => ?_ | refine Nat1.mk fun q_ hq_ => ?_ | refine em_ fun x_ hx_ => ?_ | refine Elem1.mk fun e_ he_ => ?_); refine g1_ ?_))
          exact frz_bool (by simp)
        · (refine g0_ ?_; repeat ((first | refine n1_ fun b_ => ?_ | refine n2_ fun b_ => ?_ | refine Nat1.mk fun q_ hq_ => ?_ | refine em_ fun x_ hx_ => ?_ | refine Elem1.mk fun e_ he_ => ?_); refine g0_ ?_))
          (refine g1_ ?_; repeat ((first | refine n1_ fun b_ => ?_ | refine n2_ fun b_ => ?_ | refine Nat1.mk fun q_ hq_ => ?_ | refine em_ fun x_ hx_ => ?_ | refine Elem1.mk fun e_ he_ => ?_); refine g1_ ?_))
          refine heq.borrow rfl rfl (fun j hj => ?_) ?_
          · match j, hj with
            | 0, _ => exact .refl _
            | 1, _ => exact frz_row_eq hO (.there _ _ _ _ _ (.there _ _ _ _ _ (.there _ _ _ _ _ (.here _ _ _)))) (by simp)
          (refine g1_ ?_; repeat ((first | refine n1_ fun b_ => ?_ | refine n2_ fun b_ => ?_ | refine Nat1.mk fun q_ hq_ => ?_ | refine em_ fun x_ hx_ => ?_ | refine Elem1.mk fun e_ he_ => ?_); refine g1_ ?_))
          exact frz_bool (by simp)
      · obtain ⟨k, hk⟩ : ∃ k, l[i]? = some k := ⟨l[i]'(by omega), List.getElem?_eq_getElem _⟩
        have hko := hlk k (List.mem_of_getElem? hk)
        have hEk := eql_key k t.pre hko hp
        have htl := tell_len k pad
        have hr' := run_snoc (t := t) (pad := pad) (a := armed) hk
        rw [hr] at hr'
        unfold stepSt at hr'
        dsimp only at hr'
        by_cases hkp : k = t.pre
        · rw [decide_eq_true hkp] at hEk
          rw [if_pos hkp, if_pos hkp] at hr'
          clear hkp
          cases ar
          · rw [if_neg (by decide)] at hr'
            (refine g0_ ?_; repeat ((first | refine n1_ fun b_ => ?_ | refine n2_ fun b_ => ?_ | refine Nat1.mk fun q_ hq_ => ?_ | refine em_ fun x_ hx_ => ?_ | refine Elem1.mk fun e_ he_ => ?_); refine g0_ ?_))
            (refine g1_ ?_; repeat ((first | refine n1_ fun b_ => ?_ | refine n2_ fun b_ => ?_ | refine Nat1.mk fun q_ hq_ => ?_ | refine em_ fun x_ hx_ => ?_ | refine Elem1.mk fun e_ he_ => ?_); refine g1_ ?_))
            refine ⟨_, hEk _ _, ?_⟩
            (refine g1_ ?_; repeat ((first | refine n1_ fun b_ => ?_ | refine n2_ fun b_ => ?_ | refine Nat1.mk fun q_ hq_ => ?_ | refine em_ fun x_ hx_ => ?_ | refine Elem1.mk fun e_ he_ => ?_); refine g1_ ?_))
            refine nx_ (i + 1, o, O, bo, a, true) ?_ ?_
            · exact ⟨by omega, hr', by omega, by omega, hO⟩
            · ((try dsimp only); (try simp only [List.length_drop, List.length_take, List.length_append, List.length_cons, List.length_nil, List.length_map] at *); omega)
          · rw [if_pos rfl] at hr'
            (refine g0_ ?_; repeat ((first | refine n1_ fun b_ => ?_ | refine n2_ fun b_ => ?_ | refine Nat1.mk fun q_ hq_ => ?_ | refine em_ fun x_ hx_ => ?_ | refine Elem1.mk fun e_ he_ => ?_); refine g0_ ?_))
            (refine g1_ ?_; repeat ((first | refine n1_ fun b_ => ?_ | refine n2_ fun b_ => ?_ | refine Nat1.mk fun q_ hq_ => ?_ | refine em_ fun x_ hx_ => ?_ | refine Elem1.mk fun e_ he_ => ?_); refine g1_ ?_))
            refine ⟨_, hEk _ _, ?_⟩
            (refine g1_ ?_; repeat ((first | refine n1_ fun b_ => ?_ | refine n2_ fun b_ => ?_ | refine Nat1.mk fun q_ hq_ => ?_ | refine em_ fun x_ hx_ => ?_ | refine Elem1.mk fun e_ he_ => ?_); refine g1_ ?_))
            refine ACalls.lend2 (tell1_ok W hN k hko pad a by_ b6 (by omega)) (by repeat (first | exact .here _ _ _ | apply Look.there)) (by repeat (first | exact .here _ _ _ | apply Look.there)) ?_
            rintro _ -
            (refine g0_ ?_; repeat ((first | refine n1_ fun b_ => ?_ | refine n2_ fun b_ => ?_ | refine Nat1.mk fun q_ hq_ => ?_ | refine em_ fun x_ hx_ => ?_ | refine Elem1.mk fun e_ he_ => ?_); refine g0_ ?_))
            refine nx_ (i + 1, o, O, bo, a ++ tellK k pad, false) ?_ ?_
            · exact ⟨by omega, hr', by rw [List.length_append]; omega, by omega, hO⟩
            · ((try dsimp only); (try simp only [List.length_drop, List.length_take, List.length_append, List.length_cons, List.length_nil, List.length_map] at *); omega)
        · rw [decide_eq_false hkp] at hEk
          rw [if_neg hkp, if_neg hkp] at hr'
          clear hkp
          cases ar
          · rw [if_neg (by decide)] at hr'
            (refine g0_ ?_; repeat ((first | refine n1_ fun b_ => ?_ | refine n2_ fun b_ => ?_ | refine Nat1.mk fun q_ hq_ => ?_ | refine em_ fun x_ hx_ => ?_ | refine Elem1.mk fun e_ he_ => ?_); refine g0_ ?_))
            (refine g1_ ?_; repeat ((first | refine n1_ fun b_ => ?_ | refine n2_ fun b_ => ?_ | refine Nat1.mk fun q_ hq_ => ?_ | refine em_ fun x_ hx_ => ?_ | refine Elem1.mk fun e_ he_ => ?_); refine g1_ ?_))
            refine ⟨_, hEk _ _, ?_⟩
            (refine g1_ ?_; repeat ((first | refine n1_ fun b_ => ?_ | refine n2_ fun b_ => ?_ | refine Nat1.mk fun q_ hq_ => ?_ | refine em_ fun x_ hx_ => ?_ | refine Elem1.mk fun e_ he_ => ?_); refine g1_ ?_))
            refine ACalls.lend2 (tell1_ok W hN k hko pad a by_ b6 (by omega)) (by repeat (first | exact .here _ _ _ | apply Look.there)) (by repeat (first | exact .here _ _ _ | apply Look.there)) ?_
            rintro _ -
            (refine g0_ ?_; repeat ((first | refine n1_ fun b_ => ?_ | refine n2_ fun b_ => ?_ | refine Nat1.mk fun q_ hq_ => ?_ | refine em_ fun x_ hx_ => ?_ | refine Elem1.mk fun e_ he_ => ?_); refine g0_ ?_))
            refine nx_ (i + 1, o, O, bo, a ++ tellK k pad, false) ?_ ?_
            · exact ⟨by omega, hr', by rw [List.length_append]; omega, by omega, hO⟩
            · ((try dsimp only); (try simp only [List.length_drop, List.length_take, List.length_append, List.length_cons, List.length_nil, List.length_map] at *); omega)
          · rw [if_pos rfl] at hr'
            (refine g0_ ?_; repeat ((first | refine n1_ fun b_ => ?_ | refine n2_ fun b_ => ?_ | refine Nat1.mk fun q_ hq_ => ?_ | refine em_ fun x_ hx_ => ?_ | refine Elem1.mk fun e_ he_ => ?_); refine g0_ ?_))
            (refine g1_ ?_; repeat ((first | refine n1_ fun b_ => ?_ | refine n2_ fun b_ => ?_ | refine Nat1.mk fun q_ hq_ => ?_ | refine em_ fun x_ hx_ => ?_ | refine Elem1.mk fun e_ he_ => ?_); refine g1_ ?_))
            refine ⟨_, hEk _ _, ?_⟩
            (refine g1_ ?_; repeat ((first | refine n1_ fun b_ => ?_ | refine n2_ fun b_ => ?_ | refine Nat1.mk fun q_ hq_ => ?_ | refine em_ fun x_ hx_ => ?_ | refine Elem1.mk fun e_ he_ => ?_); refine g1_ ?_))
            obtain ⟨bk, rfl⟩ : ∃ b1, b1 = b_ := ⟨_, rfl⟩
            refine' loopI (α := Nat × (List (List UInt8)) × (List PV) × Nat) (fun (j, o', O', bo') => [(93, .int .i64 j), (14, accV bo' 1 O')]) [(3, _), (4, _), (9, _), (10, _), (11, _), (12, _), (15, _), (16, _), (18, _), (66, _), (67, _), (68, _), (91, _), (92, _)] (fun (j, o', O', bo') => [⟨bk, .row 4 [encKey k] 0⟩, ⟨bt, .row 5 [.agg [.int .i64 t.pre.kind, .int .i32 t.pre.r, .int .i64 t.pre.n, .int .i64 t.pre.held, .sl 5 (t.binds.map encBnd)]] 0⟩, ⟨b6, .row 1 [.bool pad] 0⟩, ⟨by_, .row 1 [.str a] 0⟩] ++ accM bo' 1 O') (fun (j, o', O', bo') => j ≤ t.binds.length ∧ o' = o ++ cmdsF t k j ∧ o'.length ≤ 20 * i + j ∧ O' = o'.map .str) (fun (j, o', O', bo') => t.binds.length - j) (0, o, O, bo) ?_ ?_
            · exact ⟨Nat.zero_le _, by simp [cmdsF], by omega, hO⟩
            rintro ⟨j, o', O', bo'⟩ ⟨hj, ho', hol', hO'⟩
            by_cases h2 : j = t.binds.length
            · subst h2
              have e2 : o ++ cmdsK t k = o' := by rw [ho']; unfold cmdsF; rw [List.take_length]; rfl
              rw [e2] at hr'
              (refine g0_ ?_; repeat ((first | refine n1_ fun b_ => ?_ | refine n2_ fun b_ => ?_ | refine Nat1.mk fun q_ hq_ => ?_ | refine em_ fun x_ hx_ => ?_ | refine Elem1.mk fun e_ he_ => ?_); refine g0_ ?_))
              (refine g1_ ?_; repeat ((first | refine n1_ fun b_ => ?_ | refine n2_ fun b_ => ?_ | refine Nat1.mk fun q_ hq_ => ?_ | refine em_ fun x_ hx_ => ?_ | refine Elem1.mk fun e_ he_ => ?_); refine g1_ ?_))
              refine nx_ (i + 1, o', O', bo', a, false) ?_ ?_
              · exact ⟨by omega, hr', by omega, by omega, hO'⟩
              · ((try dsimp only); (try simp only [List.length_drop, List.length_take, List.length_append, List.length_cons, List.length_nil, List.length_map] at *); omega)
            · obtain ⟨b, hb⟩ : ∃ b, t.binds[j]? = some b := ⟨t.binds[j]'(by omega), List.getElem?_eq_getElem _⟩
              have hbo := (hL b (List.mem_of_getElem? hb)).1
              have hEb := eql_key b.k k hbo hko
              by_cases hbk : b.k = k
              · rw [decide_eq_true hbk] at hEb
                have hs := cmdsF_snoc (k := k) hb
                rw [if_pos hbk] at hs
                have ho2 : o' ++ [b.cmd] = o ++ cmdsF t k (j + 1) := by rw [hs, ho', List.append_assoc]
                clear hbk hs
                subst hO'
                rcases o' with _ | ⟨o0, o'⟩
                · (refine g0_ ?_; repeat ((first | refine n1_ fun b_ => ?_ | refine n2_ fun b_ => ?_ | refine Nat1.mk fun q_ hq_ => ?_ | refine em_ fun x_ hx_ => ?_ | refine Elem1.mk fun e_ he_ => ?_); refine g0_ ?_))
                  (refine g1_ ?_; repeat ((first | refine n1_ fun b_ => ?_ | refine n2_ fun b_ => ?_ | refine Nat1.mk fun q_ hq_ => ?_ | refine em_ fun x_ hx_ => ?_ | refine Elem1.mk fun e_ he_ => ?_); refine g1_ ?_))
                  refine ⟨_, hEb _ _, ?_⟩
                  (refine g1_ ?_; repeat ((first | refine n1_ fun b_ => ?_ | refine n2_ fun b_ => ?_ | refine Nat1.mk fun q_ hq_ => ?_ | refine em_ fun x_ hx_ => ?_ | refine Elem1.mk fun e_ he_ => ?_); refine g1_ ?_))
                  refine .inl ?_
                  (refine g1_ ?_; repeat ((first | refine n1_ fun b_ => ?_ | refine n2_ fun b_ => ?_ | refine Nat1.mk fun q_ hq_ => ?_ | refine em_ fun x_ hx_ => ?_ | refine Elem1.mk fun e_ he_ => ?_); refine g1_ ?_))
                  refine nx_ (j + 1, [] ++ [b.cmd], List.map PV.str [] ++ [PV.str b.cmd], b_) ?_ ?_
                  · exact ⟨by omega, ho2, by (try simp only [List.length_append, List.length_cons, List.length_nil] at hol' ⊢); omega, by simp⟩
                  · ((try dsimp only); (try simp only [List.length_drop, List.length_take, List.length_append, List.length_cons, List.length_nil, List.length_map] at *); omega)
                · have ho := strs_all1 o'
                  have hol3 : (o'.map PV.str).length = o'.length := List.length_map _
                  simp only [List.length_cons] at hol'
                  (refine g0_ ?_; repeat ((first | refine n1_ fun b_ => ?_ | refine n2_ fun b_ => ?_ | refine Nat1.mk fun q_ hq_ => ?_ | refine em_ fun x_ hx_ => ?_ | refine Elem1.mk fun e_ he_ => ?_); refine g0_ ?_))
                  (refine g1_ ?_; repeat ((first | refine n1_ fun b_ => ?_ | refine n2_ fun b_ => ?_ | refine Nat1.mk fun q_ hq_ => ?_ | refine em_ fun x_ hx_ => ?_ | refine Elem1.mk fun e_ he_ => ?_); refine g1_ ?_))
                  refine ⟨_, hEb _ _, ?_⟩
                  (refine g1_ ?_; repeat ((first | refine n1_ fun b_ => ?_ | refine n2_ fun b_ => ?_ | refine Nat1.mk fun q_ hq_ => ?_ | refine em_ fun x_ hx_ => ?_ | refine Elem1.mk fun e_ he_ => ?_); refine g1_ ?_))
                  refine .inl ?_
                  (refine g1_ ?_; repeat ((first | refine n1_ fun b_ => ?_ | refine n2_ fun b_ => ?_ | refine Nat1.mk fun q_ hq_ => ?_ | refine em_ fun x_ hx_ => ?_ | refine Elem1.mk fun e_ he_ => ?_); refine g1_ ?_))
                  refine nx_ (j + 1, (o0 :: o') ++ [b.cmd], List.map PV.str (o0 :: o') ++ [PV.str b.cmd], b_) ?_ ?_
                  · exact ⟨by omega, ho2, by (try simp only [List.length_append, List.length_cons, List.length_nil] at hol' ⊢); omega, by simp⟩
                  · ((try dsimp only); (try simp only [List.length_drop, List.length_take, List.length_append, List.length_cons, List.length_nil, List.length_map] at *); omega)
              · rw [decide_eq_false hbk] at hEb
                have hs := cmdsF_snoc (k := k) hb
                rw [if_neg hbk, List.append_nil] at hs
                rw [← hs] at ho'
                clear hbk
                (refine g0_ ?_; repeat ((first | refine n1_ fun b_ => ?_ | refine n2_ fun b_ => ?_ | refine Nat1.mk fun q_ hq_ => ?_ | refine em_ fun x_ hx_ => ?_ | refine Elem1.mk fun e_ he_ => ?_); refine g0_ ?_))
                (refine g1_ ?_; repeat ((first | refine n1_ fun b_ => ?_ | refine n2_ fun b_ => ?_ | refine Nat1.mk fun q_ hq_ => ?_ | refine em_ fun x_ hx_ => ?_ | refine Elem1.mk fun e_ he_ => ?_); refine g1_ ?_))
                refine ⟨_, hEb _ _, ?_⟩
                (refine g1_ ?_; repeat ((first | refine n1_ fun b_ => ?_ | refine n2_ fun b_ => ?_ | refine Nat1.mk fun q_ hq_ => ?_ | refine em_ fun x_ hx_ => ?_ | refine Elem1.mk fun e_ he_ => ?_); refine g1_ ?_))
                refine nx_ (j + 1, o', O', bo') ?_ ?_
                · exact ⟨by omega, ho', by omega, hO'⟩
                · ((try dsimp only); (try simp only [List.length_drop, List.length_take, List.length_append, List.length_cons, List.length_nil, List.length_map] at *); omega)
  · have e : struckE t l pad armed = (⟨[], [], false⟩, checkT t) := by unfold struckE; rw [if_pos h0]
    rw [e] at hs0
    generalize checkT t = E at *
    dsimp only at hs0
    unfold encTab at *
    refine Pure.of (acalls_of_vc (drawOk W) Tryd.func5 rfl (by decide) (by decide) rfl ?_)
    (refine g0_ ?_; repeat ((first | refine n1_ fun b_ => ?_ | refine n2_ fun b_ => ?_ | refine Nat1.mk fun q_ hq_ => ?_ | refine em_ fun x_ hx_ => ?_ | refine Elem1.mk fun e_ he_ => ?_); refine g0_ ?_))
    refine (hs0).use ?_; (refine g0_ ?_; repeat ((first | refine n1_ fun b_ => ?_ | refine n2_ fun b_ => ?_ | refine Nat1.mk fun q_ hq_ => ?_ | refine em_ fun x_ hx_ => ?_ | refine Elem1.mk fun e_ he_ => ?_); refine g0_ ?_))
    (refine g0_ ?_; repeat ((first | refine n1_ fun b_ => ?_ | refine n2_ fun b_ => ?_ | refine Nat1.mk fun q_ hq_ => ?_ | refine em_ fun x_ hx_ => ?_ | refine Elem1.mk fun e_ he_ => ?_); refine g0_ ?_))
    refine (hck).use ?_; (refine g0_ ?_; repeat ((first | refine n1_ fun b_ => ?_ | refine n2_ fun b_ => ?_ | refine Nat1.mk fun q_ hq_ => ?_ | refine em_ fun x_ hx_ => ?_ | refine Elem1.mk fun e_ he_ => ?_); refine g0_ ?_))
    (refine g1_ ?_; repeat ((first | refine n1_ fun b_ => ?_ | refine n2_ fun b_ => ?_ | refine Nat1.mk fun q_ hq_ => ?_ | refine em_ fun x_ hx_ => ?_ | refine Elem1.mk fun e_ he_ => ?_); refine g1_ ?_))
    refine (hbd).use ?_; (refine g0_ ?_; repeat ((first | refine n1_ fun b_ => ?_ | refine n2_ fun b_ => ?_ | refine Nat1.mk fun q_ hq_ => ?_ | refine em_ fun x_ hx_ => ?_ | refine Elem1.mk fun e_ he_ => ?_); refine g0_ ?_))
    (refine g1_ ?_; repeat ((first | refine n1_ fun b_ => ?_ | refine n2_ fun b_ => ?_ | refine Nat1.mk fun q_ hq_ => ?_ | refine em_ fun x_ hx_ => ?_ | refine Elem1.mk fun e_ he_ => ?_); refine g1_ ?_))
    refine (hbd).use ?_; (refine g0_ ?_; repeat ((first | refine n1_ fun b_ => ?_ | refine n2_ fun b_ => ?_ | refine Nat1.mk fun q_ hq_ => ?_ | refine em_ fun x_ hx_ => ?_ | refine Elem1.mk fun e_ he_ => ?_); refine g0_ ?_))
    (refine g1_ ?_; repeat ((first | refine n1_ fun b_ => ?_ | refine n2_ fun b_ => ?_ | refine Nat1.mk fun q_ hq_ => ?_ | refine em_ fun x_ hx_ => ?_ | refine Elem1.mk fun e_ he_ => ?_); refine g1_ ?_))
    exact frz_bool (by simp)
end Go.Eng.YtecafnhnkklboaaDoor
end
