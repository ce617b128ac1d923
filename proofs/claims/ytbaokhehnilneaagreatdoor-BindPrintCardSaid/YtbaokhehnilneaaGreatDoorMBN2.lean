/- Texts put together: BndS, BndJ. -/
import Derived.Test.YtbaokhehnilneaaGreatDoorMBN1
import Derived.Test.YtbaokhehnilneaaGreatDoorMKYH
import Derived.Test.YtbaokhehnilneaaGreatDoorME3
import Derived.Test.YtbaokhehnilneaaGreatDoorMKY5
/- Keys that are commands: what keys do (b_ x_ q_ e_). -/
section
namespace Go.Eng.YtbaokhehnilneaaGreatDoor
open Go Go.Eng Go.Proofs Go.Maps
variable (W : World)
set_option linter.unusedSimpArgs false
set_option maxRecDepth 100000
set_option linter.unusedVariables false
set_option maxHeartbeats 8000000
def struckE (t : BTab) (l : List Key) (pad armed : Bool) : SS × Int :=
  if checkT t ≠ 0 then (⟨[], [], false⟩, checkT t) else if 4000 < l.length then (⟨[], [], false⟩, 2) else (runK2 t pad l armed, 0)
theorem kwriteT_ok (hN : Nums W) (k : Key) (pad : Bool) : Pure Tryz.prog W 29 [encKey k, .bool pad] (.tup [.str (tellK k pad), .int .i64 (if isKey k then 0 else 5)]) := by
  unfold tellK
  by_cases hk : isKey k
  · rw [if_pos hk, if_pos hk]
    exact kwrite_ok W hN k pad hk
  · rw [if_neg hk, if_neg hk]
    exact write_bad W k pad hk
theorem tell_len (k : Key) (pad : Bool) : (tellK k pad).length ≤ 40 := by
  unfold tellK
  split
  · rename_i hk
    exact write_len k pad hk
  · exact Nat.zero_le _
def cmdsF (t : BTab) (k : Key) (j : Nat) : List (List UInt8) := ((t.binds.take j).filter fun b => decide (b.k = k)).map (·.cmd)
theorem cmdsF_snoc {t : BTab} {k : Key} {j : Nat} {b : Bnd} (h : t.binds[j]? = some b) : cmdsF t k (j + 1) = cmdsF t k j ++ (if b.k = k then [b.cmd] else []) := by
  unfold cmdsF
  rw [take_snoc_of h, List.filter_append, List.map_append]
  congr 1
  by_cases e : b.k = k
  · simp [e]
  · simp [e]
theorem Pure.of_accB {f : FuncId} {args : List PV} {L : List PV} {b : List UInt8} {a : Bool} {e : Int} (h : ACalls Tryz.prog W f args [] (Gives (fun m : Nat => .tup [accV m 1 L, .str b, .bool a, .int .i64 e]) (fun m => accM m 1 L) (fun _ => True))) :
    Pure Tryz.prog W f args (.tup [.sl 1 L, .str b, .bool a, .int .i64 e]) := by
  refine Pure.of (h.mono ?_)
  rintro v σ ⟨m, -, rfl, hw⟩
  refine .tup _ _ rfl fun j hj => ?_
  match j, hj with
  | 0, _ =>
    cases L with
    | nil => exact .nils _
    | cons x l =>
      obtain ⟨ρ, hρ⟩ := Look.of_wk hw List.mem_cons_self
      exact frz_row hρ _ (by simp)
  | 1, _ => exact .refl _
  | 2, _ => exact .refl _
  | 3, _ => exact .refl _
theorem bstruck_own (hN : Nums W) (t : BTab) (hok : t.ok) (l : List Key) (hl : ∀ k ∈ l, k.ok) (hll : l.length ≤ 17592186044416) (pad armed : Bool) :
    ACalls Tryz.prog W 14 [encTab t, .sl 4 (l.map encKey), .bool pad, .bool armed] [] (Gives (fun m : Nat => .tup [accV m 1 ((struckE t l pad armed).1.cmds.map .str), .str (struckE t l pad armed).1.bytes, .bool (struckE t l pad armed).1.armed, .int .i64 (struckE t l pad armed).2]) (fun m => accM m 1 ((struckE t l pad armed).1.cmds.map .str)) (fun _ => True)) := by
  have hlm : (l.map encKey).length = l.length := List.length_map _
  have hck := bcheck_ok W t hok
  by_cases h0 : checkT t = 0
  · by_cases h4 : 4000 < l.length
    · have e : struckE t l pad armed = (⟨[], [], false⟩, 2) := by unfold struckE; rw [if_neg (by simpa using h0), if_pos h4]
      rw [e]
      rw [h0] at hck
      obtain ⟨pre, L⟩ := t
      unfold encTab at *
      dsimp only at *
      refine acalls_of_vc (drawOk W) Tryz.func14 rfl (by decide) (by decide) rfl ?_
      (refine g0_ ?_; repeat ((first | refine n1_ fun b_ => ?_ | refine n2_ fun b_ => ?_ | refine Nat1.mk fun q_ hq_ => ?_ | refine em_ fun x_ hx_ => ?_ | refine Elem1.mk fun e_ he_ => ?_); refine g0_ ?_))
      refine (hck).use ?_; (refine g0_ ?_; repeat ((first | refine n1_ fun b_ => ?_ | refine n2_ fun b_ => ?_ | refine Nat1.mk fun q_ hq_ => ?_ | refine em_ fun x_ hx_ => ?_ | refine Elem1.mk fun e_ he_ => ?_); refine g0_ ?_))
      (refine g1_ ?_; repeat ((first | refine n1_ fun b_ => ?_ | refine n2_ fun b_ => ?_ | refine Nat1.mk fun q_ hq_ => ?_ | refine em_ fun x_ hx_ => ?_ | refine Elem1.mk fun e_ he_ => ?_); refine g1_ ?_))
      exact ⟨0, trivial, rfl, wkMem.nil _⟩
    · have e : struckE t l pad armed = (runK2 t pad l armed, 0) := by unfold struckE; rw [if_neg (by simpa using h0), if_neg h4]
      rw [e]
      rw [h0] at hck
      have hnb : t.binds.length ≤ 20 := by
        unfold checkT at h0
        split at h0
        · cases h0
        · split at h0
          · cases h0
          · omega
      obtain ⟨hp, hL, -⟩ := hok
      clear e h0
      generalize hR : runK2 t pad l armed = R
      have hbm : (t.binds.map encBnd).length = t.binds.length := List.length_map _
      refine acalls_of_vc (drawOk W) Tryz.func14 rfl (by decide) (by decide) rfl ?_
      unfold encTab at hck ⊢
      (refine g0_ ?_; repeat ((first | refine n1_ fun b_ => ?_ | refine n2_ fun b_ => ?_ | refine Nat1.mk fun q_ hq_ => ?_ | refine em_ fun x_ hx_ => ?_ | refine Elem1.mk fun e_ he_ => ?_); refine g0_ ?_))
      refine (hck).use ?_; (refine g0_ ?_; repeat ((first | refine n1_ fun b_ => ?_ | refine n2_ fun b_ => ?_ | refine Nat1.mk fun q_ hq_ => ?_ | refine em_ fun x_ hx_ => ?_ | refine Elem1.mk fun e_ he_ => ?_); refine g0_ ?_))
      (refine g1_ ?_; repeat ((first | refine n1_ fun b_ => ?_ | refine n2_ fun b_ => ?_ | refine Nat1.mk fun q_ hq_ => ?_ | refine em_ fun x_ hx_ => ?_ | refine Elem1.mk fun e_ he_ => ?_); refine g1_ ?_))
      rename_i bt
      obtain ⟨bw, rfl⟩ : ∃ b1, b1 = b_ := ⟨_, rfl⟩
      refine' loopI (α := Nat × (List (List UInt8)) × (List PV) × Nat × Nat × Bool × (List UInt8) × Bool) (fun (i, o, O, bo, c, z, a, ar) => [(32, .int .i64 i), (8, accV bo 1 O), (3, .bool ar)]) [(2, _), (4, _), (13, _), (30, _), (31, _)] (fun (i, o, O, bo, c, z, a, ar) => [⟨bt, .row 5 [.agg [.int .i64 t.pre.kind, .int .i32 t.pre.r, .int .i64 t.pre.n, .int .i64 t.pre.held, .sl 5 (t.binds.map encBnd)]] 0⟩] ++ (accM bo 1 O ++ bldT bw c z a)) (fun (i, o, O, bo, c, z, a, ar) => i ≤ l.length ∧ runK2 t pad (l.take i) armed = ⟨o, a, ar⟩ ∧ a.length ≤ 40 * i ∧ o.length ≤ 20 * i ∧ O = o.map .str) (fun (i, o, O, bo, c, z, a, ar) => l.length - i) (0, [], [], 0, 0, false, [], armed) ?_ ?_
      · exact ⟨Nat.zero_le _, rfl, Nat.zero_le _, Nat.zero_le _, rfl⟩
      rintro ⟨i, o, O, bo, c, z, a, ar⟩ ⟨hi, hr, hal, hol, hO⟩
      by_cases h1 : i = l.length
      · subst h1
        rw [List.take_length, hR] at hr
        subst hr
        dsimp only
        subst hO
        rcases o with _ | ⟨o0, o⟩
        · (refine g0_ ?_; repeat ((first | refine n1_ fun b_ => ?_ | refine n2_ fun b_ => ?_ | refine Nat1.mk fun q_ hq_ => ?_ | refine em_ fun x_ hx_ => ?_ | refine Elem1.mk fun e_ he_ => ?_); refine g0_ ?_))
          (refine g1_ ?_; repeat ((first | refine n1_ fun b_ => ?_ | refine n2_ fun b_ => ?_ | refine Nat1.mk fun q_ hq_ => ?_ | refine em_ fun x_ hx_ => ?_ | refine Elem1.mk fun e_ he_ => ?_); refine g1_ ?_))
          refine ACalls.lendEnd (r := _ :: accM bo 1 []) (stringT_ok W bw c z a (by omega)) (.refl _) ?_
          rintro _ -
          (refine g0_ ?_; repeat ((first | refine n1_ fun b_ => ?_ | refine n2_ fun b_ => ?_ | refine Nat1.mk fun q_ hq_ => ?_ | refine em_ fun x_ hx_ => ?_ | refine Elem1.mk fun e_ he_ => ?_); refine g0_ ?_))
          exact ⟨0, trivial, rfl, wkMem.nil _⟩
        · (refine g0_ ?_; repeat ((first | refine n1_ fun b_ => ?_ | refine n2_ fun b_ => ?_ | refine Nat1.mk fun q_ hq_ => ?_ | refine em_ fun x_ hx_ => ?_ | refine Elem1.mk fun e_ he_ => ?_); refine g0_ ?_))
          (refine g1_ ?_; repeat ((first | refine n1_ fun b_ => ?_ | refine n2_ fun b_ => ?_ | refine Nat1.mk fun q_ hq_ => ?_ | refine em_ fun x_ hx_ => ?_ | refine Elem1.mk fun e_ he_ => ?_); refine g1_ ?_))
          refine ACalls.lendEnd (r := _ :: accM bo 1 (List.map PV.str (o0 :: o))) (stringT_ok W bw c z a (by omega)) (.refl _) ?_
          rintro _ -
          (refine g0_ ?_; repeat ((first | refine n1_ fun b_ => ?_ | refine n2_ fun b_ => ?_ | refine Nat1.mk fun q_ hq_ => ?_ | refine em_ fun x_ hx_ => ?_ | refine Elem1.mk fun e_ he_ => ?_); refine g0_ ?_))
          exact ⟨bo, trivial, rfl, by (first | exact ⟨_, .refl _⟩ | exact wkMem.rfl' | exact ⟨_, .swap _ _ _⟩ | (repeat (first | exact wkMem.nil _ | exact wkMem.rfl' | exact wk_snoc _ _ _ | exact wk_fam (by assumption) _ _ _ | exact wk_famN (by assumption) _ _ _ | (apply wkMem.cons; (case' hl => (repeat (first | exact .here _ _ _ | apply Look.there)))) | apply wkMem.skip)))⟩
      · obtain ⟨k, hk⟩ : ∃ k, l[i]? = some k := ⟨l[i]'(by omega), List.getElem?_eq_getElem _⟩
        have hko := hl k (List.mem_of_getElem? hk)
        have hEk := eql_key k t.pre hko hp
        have hw : Pure Tryz.prog W 29 [.agg [.int .i64 k.kind, .int .i32 k.r, .int .i64 k.n, .int .i64 k.held], .bool pad] _ := kwriteT_ok W hN k pad
        have htl := tell_len k pad
        have hr' := run_snoc (t := t) (pad := pad) (a := armed) hk
        rw [hr] at hr'
        unfold stepSt at hr'
        dsimp only at hr'
        by_cases hkp : k = t.pre
        · rw [decide_eq_true hkp] at hEk
          rw [if_pos hkp, if_pos hkp] at hr'
          clear hkp
          cases ar
          · rw [if_neg (by decide)] at hr'
            (refine g0_ ?_; repeat ((first | refine n1_ fun b_ => ?_ | refine n2_ fun b_ => ?_ | refine Nat1.mk fun q_ hq_ => ?_ | refine em_ fun x_ hx_ => ?_ | refine Elem1.mk fun e_ he_ => ?_); refine g0_ ?_))
            (refine g1_ ?_; repeat ((first | refine n1_ fun b_ => ?_ | refine n2_ fun b_ => ?_ | refine Nat1.mk fun q_ hq_ => ?_ | refine em_ fun x_ hx_ => ?_ | refine Elem1.mk fun e_ he_ => ?_); refine g1_ ?_))
            refine ⟨_, hEk _ _, ?_⟩
            (refine g1_ ?_; repeat ((first | refine n1_ fun b_ => ?_ | refine n2_ fun b_ => ?_ | refine Nat1.mk fun q_ hq_ => ?_ | refine em_ fun x_ hx_ => ?_ | refine Elem1.mk fun e_ he_ => ?_); refine g1_ ?_))
            refine nx_ (i + 1, o, O, bo, c, z, a, true) ?_ ?_
            · exact ⟨by omega, hr', by omega, by omega, hO⟩
            · ((try dsimp only); (try simp only [List.length_drop, List.length_take, List.length_append, List.length_cons, List.length_nil, List.length_map] at *); omega)
          · rw [if_pos rfl] at hr'
            (refine g0_ ?_; repeat ((first | refine n1_ fun b_ => ?_ | refine n2_ fun b_ => ?_ | refine Nat1.mk fun q_ hq_ => ?_ | refine em_ fun x_ hx_ => ?_ | refine Elem1.mk fun e_ he_ => ?_); refine g0_ ?_))
            (refine g1_ ?_; repeat ((first | refine n1_ fun b_ => ?_ | refine n2_ fun b_ => ?_ | refine Nat1.mk fun q_ hq_ => ?_ | refine em_ fun x_ hx_ => ?_ | refine Elem1.mk fun e_ he_ => ?_); refine g1_ ?_))
            refine ⟨_, hEk _ _, ?_⟩
            (refine g1_ ?_; repeat ((first | refine n1_ fun b_ => ?_ | refine n2_ fun b_ => ?_ | refine Nat1.mk fun q_ hq_ => ?_ | refine em_ fun x_ hx_ => ?_ | refine Elem1.mk fun e_ he_ => ?_); refine g1_ ?_))
            refine (hw).use ?_; (refine g0_ ?_; repeat ((first | refine n1_ fun b_ => ?_ | refine n2_ fun b_ => ?_ | refine Nat1.mk fun q_ hq_ => ?_ | refine em_ fun x_ hx_ => ?_ | refine Elem1.mk fun e_ he_ => ?_); refine g0_ ?_))
            refine ACalls.lendEnd (r := _ :: _ :: accM bo 1 O) (writeT_ok W bw c z a (tellK k pad) (by omega) (by omega)) (.refl _) ?_
            rintro c' -
            (refine g0_ ?_; repeat ((first | refine n1_ fun b_ => ?_ | refine n2_ fun b_ => ?_ | refine Nat1.mk fun q_ hq_ => ?_ | refine em_ fun x_ hx_ => ?_ | refine Elem1.mk fun e_ he_ => ?_); refine g0_ ?_))
            refine nx_ (i + 1, o, O, bo, c', true, a ++ tellK k pad, false) ?_ ?_
            · exact ⟨by omega, hr', by rw [List.length_append]; omega, by omega, hO⟩
            · ((try dsimp only); (try simp only [List.length_drop, List.length_take, List.length_append, List.length_cons, List.length_nil, List.length_map] at *); omega)
        · rw [decide_eq_false hkp] at hEk
          rw [if_neg hkp, if_neg hkp] at hr'
          clear hkp
          cases ar
          · rw [if_neg (by decide)] at hr'
            (refine g0_ ?_; repeat ((first | refine n1_ fun b_ => ?_ | refine n2_ fun b_ => ?_ | refine Nat1.mk fun q_ hq_ => ?_ | refine em_ fun x_ hx_ => ?_ | refine Elem1.mk fun e_ he_ => ?_); refine g0_ ?_))
            (refine g1_ ?_; repeat ((first | refine n1_ fun b_ => ?_ | refine n2_ fun b_ => ?_ | refine Nat1.mk fun q_ hq_ => ?_ | refine em_ fun x_ hx_ => ?_ | refine Elem1.mk fun e_ he_ => ?_); refine g1_ ?_))
            refine ⟨_, hEk _ _, ?_⟩
            (refine g1_ ?_; repeat ((first | refine n1_ fun b_ => ?_ | refine n2_ fun b_ => ?_ | refine Nat1.mk fun q_ hq_ => ?_ | refine em_ fun x_ hx_ => ?_ | refine Elem1.mk fun e_ he_ => ?_); refine g1_ ?_))
            refine (hw).use ?_; (refine g0_ ?_; repeat ((first | refine n1_ fun b_ => ?_ | refine n2_ fun b_ => ?_ | refine Nat1.mk fun q_ hq_ => ?_ | refine em_ fun x_ hx_ => ?_ | refine Elem1.mk fun e_ he_ => ?_); refine g0_ ?_))
            refine ACalls.lendEnd (r := _ :: _ :: accM bo 1 O) (writeT_ok W bw c z a (tellK k pad) (by omega) (by omega)) (.refl _) ?_
            rintro c' -
            (refine g0_ ?_; repeat ((first | refine n1_ fun b_ => ?_ | refine n2_ fun b_ => ?_ | refine Nat1.mk fun q_ hq_ => ?_ | refine em_ fun x_ hx_ => ?_ | refine Elem1.mk fun e_ he_ => ?_); refine g0_ ?_))
            refine nx_ (i + 1, o, O, bo, c', true, a ++ tellK k pad, false) ?_ ?_
            · exact ⟨by omega, hr', by rw [List.length_append]; omega, by omega, hO⟩
            · ((try dsimp only); (try simp only [List.length_drop, List.length_take, List.length_append, List.length_cons, List.length_nil, List.length_map] at *); omega)
          · rw [if_pos rfl] at hr'
            (refine g0_ ?_; repeat ((first | refine n1_ fun b_ => ?_ | refine n2_ fun b_ => ?_ | refine Nat1.mk fun q_ hq_ => ?_ | refine em_ fun x_ hx_ => ?_ | refine Elem1.mk fun e_ he_ => ?_); refine g0_ ?_))
            (refine g1_ ?_; repeat ((first | refine n1_ fun b_ => ?_ | refine n2_ fun b_ => ?_ | refine Nat1.mk fun q_ hq_ => ?_ | refine em_ fun x_ hx_ => ?_ | refine Elem1.mk fun e_ he_ => ?_); refine g1_ ?_))
            refine ⟨_, hEk _ _, ?_⟩
            (refine g1_ ?_; repeat ((first | refine n1_ fun b_ => ?_ | refine n2_ fun b_ => ?_ | refine Nat1.mk fun q_ hq_ => ?_ | refine em_ fun x_ hx_ => ?_ | refine Elem1.mk fun e_ he_ => ?_); refine g1_ ?_))
            obtain ⟨bk, rfl⟩ : ∃ b1, b1 = b_ := ⟨_, rfl⟩
            refine' loopI (α := Nat × (List (List UInt8)) × (List PV) × Nat) (fun (j, o', O', bo') => [(61, .int .i64 j), (8, accV bo' 1 O')]) [(2, _), (3, _), (4, _), (13, _), (15, _), (30, _), (31, _), (32, _), (59, _), (60, _)] (fun (j, o', O', bo') => [⟨bk, .row 4 [encKey k] 0⟩, ⟨bt, .row 5 [.agg [.int .i64 t.pre.kind, .int .i32 t.pre.r, .int .i64 t.pre.n, .int .i64 t.pre.held, .sl 5 (t.binds.map encBnd)]] 0⟩] ++ (accM bo' 1 O' ++ bldT bw c z a)) (fun (j, o', O', bo') => j ≤ t.binds.length ∧ o' = o ++ cmdsF t k j ∧ o'.length ≤ 20 * i + j ∧ O' = o'.map .str) (fun (j, o', O', bo') => t.binds.length - j) (0, o, O, bo) ?_ ?_
            · exact ⟨Nat.zero_le _, by simp [cmdsF], by omega, hO⟩
            rintro ⟨j, o', O', bo'⟩ ⟨hj, ho', hol', hO'⟩
            by_cases h2 : j = t.binds.length
            · subst h2
              have e2 : o ++ cmdsK t k = o' := by rw [ho']; unfold cmdsF; rw [List.take_length]; rfl
              rw [e2] at hr'
              (refine g0_ ?_; repeat ((first | refine n1_ fun b_ => ?_ | refine n2_ fun b_ => ?_ | refine Nat1.mk fun q_ hq_ => ?_ | refine em_ fun x_ hx_ => ?_ | refine Elem1.mk fun e_ he_ => ?_); refine g0_ ?_))
              (refine g1_ ?_; repeat ((first | refine n1_ fun b_ => ?_ | refine n2_ fun b_ => ?_ | refine Nat1.mk fun q_ hq_ => ?_ | refine em_ fun x_ hx_ => ?_ | refine Elem1.mk fun e_ he_ => ?_); refine g1_ ?_))
              refine nx_ (i + 1, o', O', bo', c, z, a, false) ?_ ?_
              · exact ⟨by omega, hr', by omega, by omega, hO'⟩
              · ((try dsimp only); (try simp only [List.length_drop, List.length_take, List.length_append, List.length_cons, List.length_nil, List.length_map] at *); omega)
            · obtain ⟨b, hb⟩ : ∃ b, t.binds[j]? = some b := ⟨t.binds[j]'(by omega), List.getElem?_eq_getElem _⟩
              have hbo := (hL b (List.mem_of_getElem? hb)).1
              have hEb := eql_key b.k k hbo hko
              by_cases hbk : b.k = k
              · rw [decide_eq_true hbk] at hEb
                have hs := cmdsF_snoc (k := k) hb
                rw [if_pos hbk] at hs
                have ho2 : o' ++ [b.cmd] = o ++ cmdsF t k (j + 1) := by rw [hs, ho', List.append_assoc]
                clear hbk hs
                subst hO'
                rcases o' with _ | ⟨o0, o'⟩
                · (refine g0_ ?_; repeat ((first | refine n1_ fun b_ => ?_ | refine n2_ fun b_ => ?_ | refine Nat1.mk fun q_ hq_ => ?_ | refine em_ fun x_ hx_ => ?_ | refine Elem1.mk fun e_ he_ => ?_); refine g0_ ?_))
                  (refine g1_ ?_; repeat ((first | refine n1_ fun b_ => ?_ | refine n2_ fun b_ => ?_ | refine Nat1.mk fun q_ hq_ => ?_ | refine em_ fun x_ hx_ => ?_ | refine Elem1.mk fun e_ he_ => ?_); refine g1_ ?_))
                  refine ⟨_, hEb _ _, ?_⟩
                  (refine g1_ ?_; repeat ((first | refine n1_ fun b_ => ?_ | refine n2_ fun b_ => ?_ | refine Nat1.mk fun q_ hq_ => ?_ | refine em_ fun x_ hx_ => ?_ | refine Elem1.mk fun e_ he_ => ?_); refine g1_ ?_))
                  refine .inl ?_
                  (refine g1_ ?_; repeat ((first | refine n1_ fun b_ => ?_ | refine n2_ fun b_ => ?_ | refine Nat1.mk fun q_ hq_ => ?_ | refine em_ fun x_ hx_ => ?_ | refine Elem1.mk fun e_ he_ => ?_); refine g1_ ?_))
                  refine nx_ (j + 1, [] ++ [b.cmd], List.map PV.str [] ++ [PV.str b.cmd], b_) ?_ ?_
                  · exact ⟨by omega, ho2, by (try simp only [List.length_append, List.length_cons, List.length_nil] at hol' ⊢); omega, by simp⟩
                  · ((try dsimp only); (try simp only [List.length_drop, List.length_take, List.length_append, List.length_cons, List.length_nil, List.length_map] at *); omega)
                · have ho := strs_all1 o'
                  have hol3 : (o'.map PV.str).length = o'.length := List.length_map _
                  simp only [List.length_cons] at hol'
                  (refine g0_ ?_; repeat ((first | refine n1_ fun b_ => ?_ | refine n2_ fun b_ => ?_ | refine Nat1.mk fun q_ hq_ => ?_ | refine em_ fun x_ hx_ => ?_ | refine Elem1.mk fun e_ he_ => ?_); refine g0_ ?_))
                  (refine g1_ ?_; repeat ((first | refine n1_ fun b_ => ?_ | refine n2_ fun b_ => ?_ | refine Nat1.mk fun q_ hq_ => ?_ | refine em_ fun x_ hx_ => ?_ | refine Elem1.mk fun e_ he_ => ?_); refine g1_ ?_))
                  refine ⟨_, hEb _ _, ?_⟩
                  (refine g1_ ?_; repeat ((first | refine n1_ fun b_ => ?_ | refine n2_ fun b_ => ?_ | refine Nat1.mk fun q_ hq_ => ?_ | refine em_ fun x_ hx_ => ?_ | refine Elem1.mk fun e_ he_ => ?_); refine g1_ ?_))
                  refine .inl ?_
                  (refine g1_ ?_; repeat ((first | refine n1_ fun b_ => ?_ | refine n2_ fun b_ => ?_ | refine Nat1.mk fun q_ hq_ => ?_ | refine em_ fun x_ hx_ => ?_ | refine Elem1.mk fun e_ he_ => ?_); refine g1_ ?_))
                  refine nx_ (j + 1, (o0 :: o') ++ [b.cmd], List.map PV.str (o0 :: o') ++ [PV.str b.cmd], b_) ?_ ?_
                  · exact ⟨by omega, ho2, by (try simp only [List.length_append, List.length_cons, List.length_nil] at hol' ⊢); omega, by simp⟩
                  · ((try dsimp only); (try simp only [List.length_drop, List.length_take, List.length_append, List.length_cons, List.length_nil, List.length_map] at *); omega)
              · rw [decide_eq_false hbk] at hEb
                have hs := cmdsF_snoc (k := k) hb
                rw [if_neg hbk, List.append_nil] at hs
                rw [← hs] at ho'
                clear hbk
                (refine g0_ ?_; repeat ((first | refine n1_ fun b_ => ?_ | refine n2_ fun b_ => ?_ | refine Nat1.mk fun q_ hq_ => ?_ | refine em_ fun x_ hx_ => ?_ | refine Elem1.mk fun e_ he_ => ?_); refine g0_ ?_))
                (refine g1_ ?_; repeat ((first | refine n1_ fun b_ => ?_ | refine n2_ fun b_ => ?_ | refine Nat1.mk fun q_ hq_ => ?_ | refine em_ fun x_ hx_ => ?_ | refine Elem1.mk fun e_ he_ => ?_); refine g1_ ?_))
                refine ⟨_, hEb _ _, ?_⟩
                (refine g1_ ?_; repeat ((first | refine n1_ fun b_ => ?_ | refine n2_ fun b_ => ?_ | refine Nat1.mk fun q_ hq_ => ?_ | refine em_ fun x_ hx_ => ?_ | refine Elem1.mk fun e_ he_ => ?_); refine g1_ ?_))
                refine nx_ (j + 1, o', O', bo') ?_ ?_
                · exact ⟨by omega, ho', by omega, hO'⟩
                · ((try dsimp only); (try simp only [List.length_drop, List.length_take, List.length_append, List.length_cons, List.length_nil, List.length_map] at *); omega)
  · have e : struckE t l pad armed = (⟨[], [], false⟩, checkT t) := by unfold struckE; rw [if_pos h0]
    rw [e]
    generalize checkT t = E at *
    obtain ⟨pre, L⟩ := t
    unfold encTab at *
    dsimp only at *
    refine acalls_of_vc (drawOk W) Tryz.func14 rfl (by decide) (by decide) rfl ?_
    (refine g0_ ?_; repeat ((first | refine n1_ fun b_ => ?_ | refine n2_ fun b_ => ?_ | refine Nat1.mk fun q_ hq_ => ?_ | refine em_ fun x_ hx_ => ?_ | refine Elem1.mk fun e_ he_ => ?_); refine g0_ ?_))
    refine (hck).use ?_; (refine g0_ ?_; repeat ((first | refine n1_ fun b_ => ?_ | refine n2_ fun b_ => ?_ | refine Nat1.mk fun q_ hq_ => ?_ | refine em_ fun x_ hx_ => ?_ | refine Elem1.mk fun e_ he_ => ?_); refine g0_ ?_))
    (refine g1_ ?_; repeat ((first | refine n1_ fun b_ => ?_ | refine n2_ fun b_ => ?_ | refine Nat1.mk fun q_ hq_ => ?_ | refine em_ fun x_ hx_ => ?_ | refine Elem1.mk fun e_ he_ => ?_); refine g1_ ?_))
    exact ⟨0, trivial, rfl, wkMem.nil _⟩
theorem bstruck_ok (hN : Nums W) (t : BTab) (hok : t.ok) (l : List Key) (hl : ∀ k ∈ l, k.ok) (hll : l.length ≤ 17592186044416) (pad armed : Bool) :
    Pure Tryz.prog W 14 [encTab t, .sl 4 (l.map encKey), .bool pad, .bool armed] (.tup [.sl 1 ((struckE t l pad armed).1.cmds.map .str), .str (struckE t l pad armed).1.bytes, .bool (struckE t l pad armed).1.armed, .int .i64 (struckE t l pad armed).2]) :=
  Pure.of_accB W (bstruck_own W hN t hok l hl hll pad armed)
end Go.Eng.YtbaokhehnilneaaGreatDoor
end

/- Keys that are commands: words joined; the first table; the fact that the laws look at first (b_ x_ q_ e_). -/
section
namespace Go.Eng.YtbaokhehnilneaaGreatDoor
open Go Go.Eng Go.Proofs Go.Maps
variable (W : World)
set_option linter.unusedSimpArgs false
set_option maxRecDepth 100000
set_option linter.unusedVariables false
set_option maxHeartbeats 8000000
theorem equal_strsB (a b : List (List UInt8)) (ha : (a.length : Int) ≤ 9223372036854775807) :
    Pure Tryz.prog W 15 [.sl 1 (a.map PV.str), .sl 1 (b.map PV.str)] (.bool (decide (a = b))) := by
  refine Pure.of (acalls_of_vc (drawOk W) Tryz.func15 rfl (by decide) (by decide) rfl ?_)
  (refine g0_ ?_; repeat ((first | refine n1_ fun b_ => ?_ | refine n2_ fun b_ => ?_ | refine Nat1.mk fun q_ hq_ => ?_ | refine em_ fun x_ hx_ => ?_ | refine Elem1.mk fun e_ he_ => ?_); refine g0_ ?_))
  refine brec ?_; intro c_ hc; (try rw [hc]); cases c_ <;> replace hc := nm_ hc
  · have hlen : a.length = b.length := by simp at hc; omega
    (refine g0_ ?_; repeat ((first | refine n1_ fun b_ => ?_ | refine n2_ fun b_ => ?_ | refine Nat1.mk fun q_ hq_ => ?_ | refine em_ fun x_ hx_ => ?_ | refine Elem1.mk fun e_ he_ => ?_); refine g0_ ?_))
    refine' loopI (α := Nat) (fun i => [(13, .int .i64 i)]) [(0, _), (1, _), (12, _)] (fun i => []) (fun i => i ≤ a.length ∧ a.take i = b.take i) (fun i => a.length - i) 0 ?_ ?_
    · exact ⟨Nat.zero_le _, by simp⟩
    rintro i ⟨hi, hw⟩
    (refine g0_ ?_; repeat ((first | refine n1_ fun b_ => ?_ | refine n2_ fun b_ => ?_ | refine Nat1.mk fun q_ hq_ => ?_ | refine em_ fun x_ hx_ => ?_ | refine Elem1.mk fun e_ he_ => ?_); refine g0_ ?_))
    refine brec ?_; intro c_ h1; (try rw [h1]); cases c_ <;> replace h1 := nm_ h1
    · (refine g0_ ?_; repeat ((first | refine n1_ fun b_ => ?_ | refine n2_ fun b_ => ?_ | refine Nat1.mk fun q_ hq_ => ?_ | refine em_ fun x_ hx_ => ?_ | refine Elem1.mk fun e_ he_ => ?_); refine g0_ ?_))
      have : i = a.length := by simp at h1; omega
      subst this
      rw [List.take_length, hlen, List.take_length] at hw
      rw [hw]
      simp
      exact .refl _
    · have hlt : i < a.length := by simp at h1; omega
      (refine g0_ ?_; repeat ((first | refine n1_ fun b_ => ?_ | refine n2_ fun b_ => ?_ | refine Nat1.mk fun q_ hq_ => ?_ | refine em_ fun x_ hx_ => ?_ | refine Elem1.mk fun e_ he_ => ?_); refine g0_ ?_))
      refine head_ ?_; (refine g0_ ?_; repeat ((first | refine n1_ fun b_ => ?_ | refine n2_ fun b_ => ?_ | refine Nat1.mk fun q_ hq_ => ?_ | refine em_ fun x_ hx_ => ?_ | refine Elem1.mk fun e_ he_ => ?_); refine g0_ ?_))
      rename_i x hx
      refine brec ?_; intro c_ h2; (try rw [h2]); cases c_ <;> replace h2 := nm_ h2
      · (refine g0_ ?_; repeat ((first | refine n1_ fun b_ => ?_ | refine n2_ fun b_ => ?_ | refine Nat1.mk fun q_ hq_ => ?_ | refine em_ fun x_ hx_ => ?_ | refine Elem1.mk fun e_ he_ => ?_); refine g0_ ?_))
        refine nx_ (i + 1) ?_ ?_
        · exact ⟨hlt, by rw [take_snoc_of hx, take_snoc_of hx_, hw, h2]⟩
        · omega
      · (refine g0_ ?_; repeat ((first | refine n1_ fun b_ => ?_ | refine n2_ fun b_ => ?_ | refine Nat1.mk fun q_ hq_ => ?_ | refine em_ fun x_ hx_ => ?_ | refine Elem1.mk fun e_ he_ => ?_); refine g0_ ?_))
        have : a ≠ b := by rintro rfl; simp_all
        simp [this]
        exact .refl _
  · have hne : a ≠ b := by
      rintro rfl
      exact hc rfl
    (refine g0_ ?_; repeat ((first | refine n1_ fun b_ => ?_ | refine n2_ fun b_ => ?_ | refine Nat1.mk fun q_ hq_ => ?_ | refine em_ fun x_ hx_ => ?_ | refine Elem1.mk fun e_ he_ => ?_); refine g0_ ?_))
    simp [hne]
    exact .refl _
/-! ### Join -/
def joinE (l : List (List UInt8)) : List UInt8 × Int :=
  if l.any (fun w => w.contains 39) = true then ([], 1) else if 4000 < (joinB l).length then ([], 2) else (joinB l, 0)
theorem frz_nil_eq {σ : Mem} {L : List PV} (h : [] = L) : Frz σ .nils (.sl 1 L) := h ▸ .nils 1
theorem frz_row_eq {σ r : Mem} {b fz n : Nat} {l L : List PV} (h : l = L) (hl : Look σ b (.row 1 l fz) r) (hn : n = l.length) : Frz σ (.rsl b 1 0 n) (.sl 1 L) := h ▸ frz_row hl n hn
/-! ### The first table -/
def firstT : BTab := ⟨⟨1, 98, 0, 4⟩, [⟨⟨1, 37, 0, 0⟩, [99, 117, 116, 32, 114, 111, 119]⟩, ⟨⟨1, 118, 0, 0⟩, [99, 117, 116, 32, 99, 111, 108, 117, 109, 110]⟩, ⟨⟨1, 120, 0, 0⟩, [99, 108, 111, 115, 101]⟩, ⟨⟨1, 111, 0, 0⟩, [110, 101, 120, 116]⟩,
  ⟨⟨1, 122, 0, 0⟩, [122, 111, 111, 109]⟩, ⟨⟨1, 99, 0, 0⟩, [119, 105, 110, 100, 111, 119, 32, 110, 101, 119]⟩, ⟨⟨1, 110, 0, 0⟩, [115, 104, 111, 119, 32, 43]⟩, ⟨⟨1, 112, 0, 0⟩, [115, 104, 111, 119, 32, 45]⟩, ⟨⟨1, 93, 0, 0⟩, [112, 97, 115, 116, 101]⟩]⟩
theorem first1_ok (hT : Tabs W) (hN : Nums W) (hE : ErrJ W) (s : List UInt8) (hs : s.length ≤ 100) (k : Key) (e : Int) (h : namedK s = (k, e)) : Pure Tryz.prog W 27 [.str s] (.agg [.int .i64 k.kind, .int .i32 k.r, .int .i64 k.n, .int .i64 k.held]) := by
  have hn := named_ok W hT hN hE s (by omega)
  rw [h] at hn
  unfold encKey at hn
  dsimp only at hn
  refine Pure.of (acalls_of_vc (drawOk W) Tryz.func27 rfl (by decide) (by decide) rfl ?_)
  (refine g0_ ?_; repeat ((first | refine n1_ fun b_ => ?_ | refine n2_ fun b_ => ?_ | refine Nat1.mk fun q_ hq_ => ?_ | refine em_ fun x_ hx_ => ?_ | refine Elem1.mk fun e_ he_ => ?_); refine g0_ ?_))
  refine (hn).use ?_; (refine g0_ ?_; repeat ((first | refine n1_ fun b_ => ?_ | refine n2_ fun b_ => ?_ | refine Nat1.mk fun q_ hq_ => ?_ | refine em_ fun x_ hx_ => ?_ | refine Elem1.mk fun e_ he_ => ?_); refine g0_ ?_))
  (refine g0_ ?_; repeat ((first | refine n1_ fun b_ => ?_ | refine n2_ fun b_ => ?_ | refine Nat1.mk fun q_ hq_ => ?_ | refine em_ fun x_ hx_ => ?_ | refine Elem1.mk fun e_ he_ => ?_); refine g0_ ?_))
  exact .refl _
theorem first_named : namedK [67, 45, 98] = (⟨1, 98, 0, 4⟩, 0) ∧ namedK [37] = (⟨1, 37, 0, 0⟩, 0) ∧ namedK [118] = (⟨1, 118, 0, 0⟩, 0) ∧ namedK [120] = (⟨1, 120, 0, 0⟩, 0) ∧ namedK [111] = (⟨1, 111, 0, 0⟩, 0) ∧ namedK [122] = (⟨1, 122, 0, 0⟩, 0)
    ∧ namedK [99] = (⟨1, 99, 0, 0⟩, 0) ∧ namedK [110] = (⟨1, 110, 0, 0⟩, 0) ∧ namedK [112] = (⟨1, 112, 0, 0⟩, 0) ∧ namedK [93] = (⟨1, 93, 0, 0⟩, 0) := by decide +kernel
theorem bfirst_ok (hT : Tabs W) (hN : Nums W) (hE : ErrJ W) : Pure Tryz.prog W 13 [] (encTab firstT) := by
  obtain ⟨e0, e1, e2, e3, e4, e5, e6, e7, e8, e9⟩ := first_named
  have n0 := first1_ok W hT hN hE _ (by decide) _ _ e0
  have n1 := first1_ok W hT hN hE _ (by decide) _ _ e1
  have n2 := first1_ok W hT hN hE _ (by decide) _ _ e2
  have n3 := first1_ok W hT hN hE _ (by decide) _ _ e3
  have n4 := first1_ok W hT hN hE _ (by decide) _ _ e4
  have n5 := first1_ok W hT hN hE _ (by decide) _ _ e5
  have n6 := first1_ok W hT hN hE _ (by decide) _ _ e6
  have n7 := first1_ok W hT hN hE _ (by decide) _ _ e7
  have n8 := first1_ok W hT hN hE _ (by decide) _ _ e8
  have n9 := first1_ok W hT hN hE _ (by decide) _ _ e9
  dsimp only at *
  refine Pure.of (acalls_of_vc (drawOk W) Tryz.func13 rfl (by decide) (by decide) rfl ?_)
  (refine g0_ ?_; repeat ((first | refine n1_ fun b_ => ?_ | refine n2_ fun b_ => ?_ | refine Nat1.mk fun q_ hq_ => ?_ | refine em_ fun x_ hx_ => ?_ | refine Elem1.mk fun e_ he_ => ?_); refine g0_ ?_))
  refine (n0).use ?_; (refine g0_ ?_; repeat ((first | refine n1_ fun b_ => ?_ | refine n2_ fun b_ => ?_ | refine Nat1.mk fun q_ hq_ => ?_ | refine em_ fun x_ hx_ => ?_ | refine Elem1.mk fun e_ he_ => ?_); refine g0_ ?_))
  refine (n1).use ?_; (refine g0_ ?_; repeat ((first | refine n1_ fun b_ => ?_ | refine n2_ fun b_ => ?_ | refine Nat1.mk fun q_ hq_ => ?_ | refine em_ fun x_ hx_ => ?_ | refine Elem1.mk fun e_ he_ => ?_); refine g0_ ?_))
  refine (n2).use ?_; (refine g0_ ?_; repeat ((first | refine n1_ fun b_ => ?_ | refine n2_ fun b_ => ?_ | refine Nat1.mk fun q_ hq_ => ?_ | refine em_ fun x_ hx_ => ?_ | refine Elem1.mk fun e_ he_ => ?_); refine g0_ ?_))
  refine (n3).use ?_; (refine g0_ ?_; repeat ((first | refine n1_ fun b_ => ?_ | refine n2_ fun b_ => ?_ | refine Nat1.mk fun q_ hq_ => ?_ | refine em_ fun x_ hx_ => ?_ | refine Elem1.mk fun e_ he_ => ?_); refine g0_ ?_))
  refine (n4).use ?_; (refine g0_ ?_; repeat ((first | refine n1_ fun b_ => ?_ | refine n2_ fun b_ => ?_ | refine Nat1.mk fun q_ hq_ => ?_ | refine em_ fun x_ hx_ => ?_ | refine Elem1.mk fun e_ he_ => ?_); refine g0_ ?_))
  refine (n5).use ?_; (refine g0_ ?_; repeat ((first | refine n1_ fun b_ => ?_ | refine n2_ fun b_ => ?_ | refine Nat1.mk fun q_ hq_ => ?_ | refine em_ fun x_ hx_ => ?_ | refine Elem1.mk fun e_ he_ => ?_); refine g0_ ?_))
  refine (n6).use ?_; (refine g0_ ?_; repeat ((first | refine n1_ fun b_ => ?_ | refine n2_ fun b_ => ?_ | refine Nat1.mk fun q_ hq_ => ?_ | refine em_ fun x_ hx_ => ?_ | refine Elem1.mk fun e_ he_ => ?_); refine g0_ ?_))
  refine (n7).use ?_; (refine g0_ ?_; repeat ((first | refine n1_ fun b_ => ?_ | refine n2_ fun b_ => ?_ | refine Nat1.mk fun q_ hq_ => ?_ | refine em_ fun x_ hx_ => ?_ | refine Elem1.mk fun e_ he_ => ?_); refine g0_ ?_))
  refine (n8).use ?_; (refine g0_ ?_; repeat ((first | refine n1_ fun b_ => ?_ | refine n2_ fun b_ => ?_ | refine Nat1.mk fun q_ hq_ => ?_ | refine em_ fun x_ hx_ => ?_ | refine Elem1.mk fun e_ he_ => ?_); refine g0_ ?_))
  refine (n9).use ?_; (refine g0_ ?_; repeat ((first | refine n1_ fun b_ => ?_ | refine n2_ fun b_ => ?_ | refine Nat1.mk fun q_ hq_ => ?_ | refine em_ fun x_ hx_ => ?_ | refine Elem1.mk fun e_ he_ => ?_); refine g0_ ?_))
  refine .inl ?_
  (refine g0_ ?_; repeat ((first | refine n1_ fun b_ => ?_ | refine n2_ fun b_ => ?_ | refine Nat1.mk fun q_ hq_ => ?_ | refine em_ fun x_ hx_ => ?_ | refine Elem1.mk fun e_ he_ => ?_); refine g0_ ?_))
  exact .refl _
theorem firstT_ok : firstT.ok ∧ checkT firstT = 0 := by
  refine ⟨⟨by unfold Key.ok i64ok i32ok firstT; decide, fun b hb => ?_, by decide⟩, by decide +kernel⟩
  have key : (firstT.binds.all fun b => decide ((0 ≤ b.k.kind ∧ b.k.kind ≤ 200 ∧ 0 ≤ b.k.r ∧ b.k.r ≤ 200 ∧ 0 ≤ b.k.n ∧ b.k.n ≤ 200 ∧ 0 ≤ b.k.held ∧ b.k.held ≤ 200) ∧ b.cmd.length ≤ 100)) = true := by decide +kernel
  have := of_decide_eq_true (List.all_eq_true.1 key b hb)
  unfold Key.ok i64ok i32ok
  omega
def boundK : List Key := [⟨1, 98, 0, 4⟩, ⟨1, 120, 0, 0⟩, ⟨1, 121, 0, 0⟩]
theorem bound_struck : (struckE firstT boundK false false).2 = 0 ∧ (struckE firstT boundK false false).1.cmds = [[99, 108, 111, 115, 101]] ∧ (struckE firstT boundK false false).1.bytes = [121] ∧ (struckE firstT boundK false false).1.armed = false := by decide +kernel
theorem bound_ok (hT : Tabs W) (hN : Nums W) (hE : ErrJ W) : Pure Tryz.prog W 6 [] (.bool true) := by
  have h1 := bfirst_ok W hT hN hE
  have h2 := bstruck_ok W hN firstT firstT_ok.1 boundK (fun k hk => by
    have key : (boundK.all fun k => decide (0 ≤ k.kind ∧ k.kind ≤ 200 ∧ 0 ≤ k.r ∧ k.r ≤ 200 ∧ 0 ≤ k.n ∧ k.n ≤ 200 ∧ 0 ≤ k.held ∧ k.held ≤ 200)) = true := by decide +kernel
    have := of_decide_eq_true (List.all_eq_true.1 key k hk)
    unfold Key.ok i64ok i32ok
    omega) (by decide) false false
  obtain ⟨b1, b2, b3, b4⟩ := bound_struck
  rw [b1, b2, b3, b4] at h2
  have h3 := equal_strsB W [[99, 108, 111, 115, 101]] [[99, 108, 111, 115, 101]] (by decide)
  rw [decide_eq_true rfl] at h3
  unfold boundK at h2
  unfold encTab at h1 h2
  simp only [List.map_cons, List.map_nil] at h2 h3
  unfold encKey at h2
  refine Pure.of (acalls_of_vc (drawOk W) Tryz.func6 rfl (by decide) (by decide) rfl ?_)
  (refine g0_ ?_; repeat ((first | refine n1_ fun b_ => ?_ | refine n2_ fun b_ => ?_ | refine Nat1.mk fun q_ hq_ => ?_ | refine em_ fun x_ hx_ => ?_ | refine Elem1.mk fun e_ he_ => ?_); refine g0_ ?_))
  refine (h1).use ?_; (refine g0_ ?_; repeat ((first | refine n1_ fun b_ => ?_ | refine n2_ fun b_ => ?_ | refine Nat1.mk fun q_ hq_ => ?_ | refine em_ fun x_ hx_ => ?_ | refine Elem1.mk fun e_ he_ => ?_); refine g0_ ?_))
  (refine g0_ ?_; repeat ((first | refine n1_ fun b_ => ?_ | refine n2_ fun b_ => ?_ | refine Nat1.mk fun q_ hq_ => ?_ | refine em_ fun x_ hx_ => ?_ | refine Elem1.mk fun e_ he_ => ?_); refine g0_ ?_))
  refine .inl ?_
  (refine g0_ ?_; repeat ((first | refine n1_ fun b_ => ?_ | refine n2_ fun b_ => ?_ | refine Nat1.mk fun q_ hq_ => ?_ | refine em_ fun x_ hx_ => ?_ | refine Elem1.mk fun e_ he_ => ?_); refine g0_ ?_))
  refine (h2).use ?_; (refine g0_ ?_; repeat ((first | refine n1_ fun b_ => ?_ | refine n2_ fun b_ => ?_ | refine Nat1.mk fun q_ hq_ => ?_ | refine em_ fun x_ hx_ => ?_ | refine Elem1.mk fun e_ he_ => ?_); refine g0_ ?_))
  (refine g0_ ?_; repeat ((first | refine n1_ fun b_ => ?_ | refine n2_ fun b_ => ?_ | refine Nat1.mk fun q_ hq_ => ?_ | refine em_ fun x_ hx_ => ?_ | refine Elem1.mk fun e_ he_ => ?_); refine g0_ ?_))
  refine .inl ?_
  (refine g0_ ?_; repeat ((first | refine n1_ fun b_ => ?_ | refine n2_ fun b_ => ?_ | refine Nat1.mk fun q_ hq_ => ?_ | refine em_ fun x_ hx_ => ?_ | refine Elem1.mk fun e_ he_ => ?_); refine g0_ ?_))
  refine (h3).use ?_; (refine g0_ ?_; repeat ((first | refine n1_ fun b_ => ?_ | refine n2_ fun b_ => ?_ | refine Nat1.mk fun q_ hq_ => ?_ | refine em_ fun x_ hx_ => ?_ | refine Elem1.mk fun e_ he_ => ?_); refine g0_ ?_))
  (refine g0_ ?_; repeat ((first | refine n1_ fun b_ => ?_ | refine n2_ fun b_ => ?_ | refine Nat1.mk fun q_ hq_ => ?_ | refine em_ fun x_ hx_ => ?_ | refine Elem1.mk fun e_ he_ => ?_); refine g0_ ?_))
  exact .refl _
end Go.Eng.YtbaokhehnilneaaGreatDoor
end
