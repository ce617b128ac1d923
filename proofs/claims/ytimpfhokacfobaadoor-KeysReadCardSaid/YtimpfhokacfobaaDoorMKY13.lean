/- Texts put together: Key19, KeyI, KeyJ, KeyN, KeyO, KeyP. -/
import Derived.Test.YtimpfhokacfobaaDoorMKY7
import Derived.Test.YtimpfhokacfobaaDoorMKY2
import Derived.Test.YtimpfhokacfobaaDoorME3
import Derived.Test.YtimpfhokacfobaaDoorME6
import Derived.Lib.ItoaLen
/- Keys: the reference's keyOf (b_ x_ q_ e_). -/
section
namespace Go.Eng.YtimpfhokacfobaaDoor
open Go Go.Eng Go.Proofs Go.Maps
variable (W : World)
set_option linter.unusedSimpArgs false
set_option maxRecDepth 100000
set_option linter.unusedVariables false
set_option maxHeartbeats 8000000
def numsOf (s : List UInt8) : Option (List Int) := if s = [] then some [] else if (splt 59 s).all okN = true then some ((splt 59 s).map cntV) else none
/-- Whether an entry of the sequences is what bytes tell. -/
def mtK (last : UInt8) (n : List Int) (t : List UInt8) : Bool :=
  decide (t.getLastD 0 = last) && (if last ≠ 126 then decide (n = []) || (decide (n.length = 2) && decide (n.getD 0 0 = 1)) else decide (1 ≤ n.length) && decide (n.length ≤ 2) && decide (Lib.itoa (n.getD 0 0) ++ [126] = t))
def heldN (n : List Int) : Int := if n.length = 2 then n.getD 1 0 - 1 else 0
def keyOfR (s : List UInt8) (last : UInt8) : Key × Bool :=
  match numsOf s with
  | none => (keyZ, false)
  | some n => if last = 90 then (⟨3, 0, 0, 1⟩, decide (n = [])) else if n.length = 2 ∧ ¬ (0 ≤ heldN n ∧ heldN n ≤ 7) then (keyZ, false) else
    match bareL.find? fun p => mtK last n p.2 with
    | some p => ({ p.1 with held := heldN n }, true)
    | none => (keyZ, false)
theorem mt_same {last : UInt8} {n : List Int} {i j : Nat} {p q : Key × List UInt8} (hi : bareL[i]? = some p) (hj : bareL[j]? = some q) (h1 : mtK last n p.2 = true) (h2 : mtK last n q.2 = true) : i = j := by
  have hil : i < 21 := (List.getElem?_eq_some_iff.1 hi).1
  have hjl : j < 21 := (List.getElem?_eq_some_iff.1 hj).1
  have key : ∀ i : Nat, i < 21 → ∀ j : Nat, j < 21 → (bareL.getD i (keyZ, [])).2.getLastD 0 = (bareL.getD j (keyZ, [])).2.getLastD 0 → ((bareL.getD i (keyZ, [])).2.getLastD 0 = 126 → (bareL.getD i (keyZ, [])).2 = (bareL.getD j (keyZ, [])).2) → i = j := by decide +kernel
  have e1 : bareL.getD i (keyZ, []) = p := by rw [List.getD_eq_getElem?_getD, hi]; rfl
  have e2 : bareL.getD j (keyZ, []) = q := by rw [List.getD_eq_getElem?_getD, hj]; rfl
  unfold mtK at h1 h2
  rw [Bool.and_eq_true, decide_eq_true_eq] at h1 h2
  refine key i hil j hjl ?_ ?_
  · rw [e1, e2, h1.1, h2.1]
  · rw [e1, e2]
    intro h
    have hl : last = 126 := h1.1 ▸ h
    rw [if_neg (by simp [hl]), Bool.and_eq_true, decide_eq_true_eq] at h1 h2
    rw [← h1.2.2, ← h2.2.2]
theorem splt_cnt59 : ∀ s : List UInt8, (splt 59 s).length ≤ s.length + 1
  | [] => Nat.le_refl _
  | c :: r => by
    have ih := splt_cnt59 r
    have hne := List.length_pos_iff.2 (splt_ne 59 r)
    rw [splt]
    split
    · simp only [List.length_cons]; omega
    · simp only [List.length_cons, List.length_tail]; omega
theorem find_mt {last : UInt8} {n : List Int} {i : Nat} {p : Key × List UInt8} (hi : bareL[i]? = some p) (h1 : mtK last n p.2 = true) : bareL.find? (fun p => mtK last n p.2) = some p := by
  cases hf : bareL.find? fun p => mtK last n p.2 with
  | none => exact absurd h1 (List.find?_eq_none.1 hf p (List.mem_of_getElem? hi))
  | some q =>
    obtain ⟨j, hj⟩ := List.mem_iff_getElem?.1 (List.mem_of_find?_eq_some hf)
    have h2 := List.find?_some hf
    obtain rfl := mt_same hi hj h1 h2
    rw [hi] at hj
    exact hj.symm
theorem find_no {last : UInt8} {n : List Int} {is : List Nat} (h : ∀ i ∈ is, ∀ p, bareL[i]? = some p → mtK last n p.2 = false) (ha : ∀ i, i < (bareEs 21).length → i ∈ is) : bareL.find? (fun p => mtK last n p.2) = none := by
  rw [List.find?_eq_none]
  intro p hp
  obtain ⟨i, hi⟩ := List.mem_iff_getElem?.1 hp
  have hil : i < 21 := (List.getElem?_eq_some_iff.1 hi).1
  rw [h i (ha i (by show i < 21; exact hil)) p hi]
  decide
theorem ent_bare {i : Nat} (hi : i < (bareEs 21).length) : ∃ p, bareL[i]? = some p ∧ (bareEs 21).getD i (.dead, .dead) = (encKey p.1, .str p.2) ∧ p.1.held = 0 ∧ 1 ≤ p.2.length ∧ p.2.length ≤ 3 := by
  have hi' : i < 21 := hi
  have key : ∀ p ∈ bareL, p.1.held = 0 ∧ 1 ≤ p.2.length ∧ p.2.length ≤ 3 := by decide +kernel
  have e21 : bareEs 21 = bareL.map entK := by unfold bareEs; rw [List.take_of_length_le (by decide)]
  obtain ⟨p, hp⟩ : ∃ p, bareL[i]? = some p := ⟨_, List.getElem?_eq_getElem (show i < bareL.length from hi')⟩
  refine ⟨p, hp, ?_, key p (List.mem_of_getElem? hp)⟩
  rw [e21, List.getD_eq_getElem?_getD, List.getElem?_map, hp]
  rfl
def lftK (is : List Nat) : Nat := ((List.range 21).filter fun i => !is.contains i).length
theorem lft_less {is : List Nat} {i : Nat} (h : i < 21) (hn : i ∉ is) : lftK (is ++ [i]) < lftK is := by
  unfold lftK
  have e : ((List.range 21).filter fun j => !(is ++ [i]).contains j) = ((List.range 21).filter fun j => !is.contains j).filter fun j => !decide (j = i) := by
    rw [List.filter_filter]
    congr 1
    funext j
    rw [List.contains_append]
    simp [Bool.and_comm]
  rw [e]
  refine List.length_filter_lt_length_iff_exists.2 ⟨i, List.mem_filter.2 ⟨List.mem_range.2 h, by simpa using hn⟩, by simp⟩
theorem last_at {t : List UInt8} (h : 1 ≤ t.length) : t[t.length - 1]? = some (t.getLastD 0) := by
  rw [← List.getLast?_eq_getElem?, List.getLastD_eq_getLast?]
  cases hl : t.getLast? with
  | none => rw [List.getLast?_eq_none_iff] at hl; subst hl; cases h
  | some x => rfl
theorem keyOf_ok (hN : Nums W) (hM : MaxJ W) (hE : ErrJ W) (s : List UInt8) (hs : s.length ≤ 4096) (hb : ∀ w ∈ splt 59 s, 0 ≤ cntV w) (last : UInt8) : Pure Tryd.prog W 59 [.str s, .int .u8 last.toNat] (.tup [encKey (keyOfR s last).1, .bool (keyOfR s last).2]) := by
  have hsq := sequences_ok W hN
  by_cases hs0 : s = []
  · subst hs0
    have hk0 : keyOfR [] last = if last = 90 then (⟨3, 0, 0, 1⟩, true) else match bareL.find? fun p => mtK last [] p.2 with
      | some p => ({ p.1 with held := 0 }, true)
      | none => (keyZ, false) := by
      unfold keyOfR numsOf
      rw [if_pos rfl]
      rfl
    rw [hk0]
    by_cases h90 : last = 90
    · subst h90
      rw [if_pos rfl]
      refine Pure.of (acalls_of_vc (drawOk W) Tryd.func59 rfl (by decide) (by decide) rfl ?_)
      (refine g0_ ?_; repeat ((first | refine n1_ fun b_ => ?_ | refine n2_ fun b_ => ?_ | refine Nat1.mk fun q_ hq_ => ?_ | refine em_ fun x_ hx_ => ?_ | refine Elem1.mk fun e_ he_ => ?_); refine g0_ ?_))
      (refine g1_ ?_; repeat ((first | refine n1_ fun b_ => ?_ | refine n2_ fun b_ => ?_ | refine Nat1.mk fun q_ hq_ => ?_ | refine em_ fun x_ hx_ => ?_ | refine Elem1.mk fun e_ he_ => ?_); refine g1_ ?_))
      exact .refl _
    · rw [if_neg h90]
      have h90' : last.toNat ≠ 90 := fun h => h90 (UInt8.toNat_inj.1 h)
      clear hk0 hb
      refine Pure.of (acalls_of_vc (drawOk W) Tryd.func59 rfl (by decide) (by decide) rfl ?_)
      (refine g0_ ?_; repeat ((first | refine n1_ fun b_ => ?_ | refine n2_ fun b_ => ?_ | refine Nat1.mk fun q_ hq_ => ?_ | refine em_ fun x_ hx_ => ?_ | refine Elem1.mk fun e_ he_ => ?_); refine g0_ ?_))
      (refine g1_ ?_; repeat ((first | refine n1_ fun b_ => ?_ | refine n2_ fun b_ => ?_ | refine Nat1.mk fun q_ hq_ => ?_ | refine em_ fun x_ hx_ => ?_ | refine Elem1.mk fun e_ he_ => ?_); refine g1_ ?_))
      obtain ⟨bz, rfl⟩ : ∃ z, z = b_ := ⟨_, rfl⟩
      refine ACalls.giveE hsq ?_
      rintro bm -
      (refine g0_ ?_; repeat ((first | refine n1_ fun b_ => ?_ | refine n2_ fun b_ => ?_ | refine Nat1.mk fun q_ hq_ => ?_ | refine em_ fun x_ hx_ => ?_ | refine Elem1.mk fun e_ he_ => ?_); refine g0_ ?_))
      refine ⟨_, _, (by repeat (first | exact .here _ _ _ | apply Look.there)), fun st ck hst => ?_⟩
      (refine g0_ ?_; repeat ((first | refine n1_ fun b_ => ?_ | refine n2_ fun b_ => ?_ | refine Nat1.mk fun q_ hq_ => ?_ | refine em_ fun x_ hx_ => ?_ | refine Elem1.mk fun e_ he_ => ?_); refine g0_ ?_))
      obtain ⟨br, rfl⟩ : ∃ z, z = b_ := ⟨_, rfl⟩
      refine' loopI (α := (List Nat)) (fun is => []) [(1, _), (4, _), (6, _), (11, _), (57, _)] (fun is => [⟨br, .mit bm st ck is⟩, ⟨bm, .mps (bareEs 21) st ck⟩, ⟨bz, .row 4 [.agg [.int .i64 0, .int .i32 0, .int .i64 0, .int .i64 0]] 0⟩] ++ []) (fun is => ∀ i ∈ is, ∀ p, bareL[i]? = some p → mtK last [] p.2 = false) (fun is => lftK is) [] ?_ ?_
      · exact fun i hi => by cases hi
      rintro is hno
      (refine g0_ ?_; repeat ((first | refine n1_ fun b_ => ?_ | refine n2_ fun b_ => ?_ | refine Nat1.mk fun q_ hq_ => ?_ | refine em_ fun x_ hx_ => ?_ | refine Elem1.mk fun e_ he_ => ?_); refine g0_ ?_))
      refine ⟨_, _, _, is, _, (by repeat (first | exact .here _ _ _ | apply Look.there)), bareEs 21, _, (by repeat (first | exact .here _ _ _ | apply Look.there)), fun i hi hni => ?_, fun hall => ?_⟩
      rotate_left
      · have hf := find_no hno hall
        rw [hf]
        clear hno
        (refine g0_ ?_; repeat ((first | refine n1_ fun b_ => ?_ | refine n2_ fun b_ => ?_ | refine Nat1.mk fun q_ hq_ => ?_ | refine em_ fun x_ hx_ => ?_ | refine Elem1.mk fun e_ he_ => ?_); refine g0_ ?_))
        exact .refl _
      obtain ⟨⟨⟨kd, r, n, hd⟩, t⟩, hp, hpe, hh, hl1, hl3⟩ := ent_bare hi
      rw [hpe]
      dsimp only at hh hl1 hl3
      subst hh
      (refine g0_ ?_; repeat ((first | refine n1_ fun b_ => ?_ | refine n2_ fun b_ => ?_ | refine Nat1.mk fun q_ hq_ => ?_ | refine em_ fun x_ hx_ => ?_ | refine Elem1.mk fun e_ he_ => ?_); refine g0_ ?_))
      refine ⟨_, _, _, is, i, _, (by repeat (first | exact .here _ _ _ | apply Look.there)), bareEs 21, _, (by repeat (first | exact .here _ _ _ | apply Look.there)), hi, ?_⟩
      rw [hpe]
      unfold encKey
      dsimp only
      have hlast := last_at hl1
      (refine g0_ ?_; repeat ((first | refine n1_ fun b_ => ?_ | refine n2_ fun b_ => ?_ | refine Nat1.mk fun q_ hq_ => ?_ | refine em_ fun x_ hx_ => ?_ | refine Elem1.mk fun e_ he_ => ?_); refine g0_ ?_))
      (refine g1_ ?_; repeat ((first | refine n1_ fun b_ => ?_ | refine n2_ fun b_ => ?_ | refine Nat1.mk fun q_ hq_ => ?_ | refine em_ fun x_ hx_ => ?_ | refine Elem1.mk fun e_ he_ => ?_); refine g1_ ?_))
      obtain rfl : q_ = t.length - 1 := by omega
      rw [hlast] at he_
      obtain rfl := Option.some.inj he_
      clear hlast hpe
      have hmt : mtK last [] t = (decide (t.getLastD 0 = last) && decide (last ≠ 126)) := by
        unfold mtK
        by_cases h : last = 126 <;> simp [h]
      generalize t.getLastD 0 = c at *
      have hnx : mtK last [] t = false → ∀ j ∈ is ++ [i], ∀ p, bareL[j]? = some p → mtK last [] p.2 = false := fun h j hj p hp' => by
        rcases List.mem_append.1 hj with hj | hj
        · exact hno j hj p hp'
        · obtain rfl := List.mem_singleton.1 hj
          rw [hp] at hp'
          obtain rfl := Option.some.inj hp'
          exact h
      have hfd : mtK last [] t = true → bareL.find? (fun p => mtK last [] p.2) = some (⟨kd, r, n, 0⟩, t) := fun h => find_mt hp h
      have hlt := lft_less (is := is) (show i < 21 from hi) hni
      clear hno hp
      by_cases hc : c = last
      rotate_left
      · rw [decide_eq_false hc, Bool.false_and] at hmt
        have hnx2 := hnx hmt
        have hc' : ¬ c.toNat = last.toNat := fun h => hc (UInt8.toNat_inj.1 h)
        clear hnx hfd hmt hc
        (refine g0_ ?_; repeat ((first | refine n1_ fun b_ => ?_ | refine n2_ fun b_ => ?_ | refine Nat1.mk fun q_ hq_ => ?_ | refine em_ fun x_ hx_ => ?_ | refine Elem1.mk fun e_ he_ => ?_); refine g0_ ?_))
        (refine g1_ ?_; repeat ((first | refine n1_ fun b_ => ?_ | refine n2_ fun b_ => ?_ | refine Nat1.mk fun q_ hq_ => ?_ | refine em_ fun x_ hx_ => ?_ | refine Elem1.mk fun e_ he_ => ?_); refine g1_ ?_))
        refine nx_ (is ++ [i]) ?_ ?_
        · exact hnx2
        · ((try dsimp only); (try simp only [List.length_drop, List.length_take, List.length_append, List.length_cons, List.length_nil, List.length_map] at *); omega)
      subst hc
      rw [decide_eq_true rfl, Bool.true_and] at hmt
      by_cases h126 : c = 126
      · rw [decide_eq_false (by simpa using h126)] at hmt
        have h126' : c.toNat = 126 := by rw [h126]; rfl
        clear h126
        have hnx2 := hnx hmt
        clear hnx hfd hmt
        (refine g0_ ?_; repeat ((first | refine n1_ fun b_ => ?_ | refine n2_ fun b_ => ?_ | refine Nat1.mk fun q_ hq_ => ?_ | refine em_ fun x_ hx_ => ?_ | refine Elem1.mk fun e_ he_ => ?_); refine g0_ ?_))
        (refine g1_ ?_; repeat ((first | refine n1_ fun b_ => ?_ | refine n2_ fun b_ => ?_ | refine Nat1.mk fun q_ hq_ => ?_ | refine em_ fun x_ hx_ => ?_ | refine Elem1.mk fun e_ he_ => ?_); refine g1_ ?_))
        refine nx_ (is ++ [i]) ?_ ?_
        · exact hnx2
        · ((try dsimp only); (try simp only [List.length_drop, List.length_take, List.length_append, List.length_cons, List.length_nil, List.length_map] at *); omega)
      · rw [decide_eq_true h126] at hmt
        rw [hfd hmt]
        have h126' : ¬ c.toNat = 126 := fun h => h126 (UInt8.toNat_inj.1 h)
        clear hnx hfd hmt h126
        (refine g0_ ?_; repeat ((first | refine n1_ fun b_ => ?_ | refine n2_ fun b_ => ?_ | refine Nat1.mk fun q_ hq_ => ?_ | refine em_ fun x_ hx_ => ?_ | refine Elem1.mk fun e_ he_ => ?_); refine g0_ ?_))
        (refine g1_ ?_; repeat ((first | refine n1_ fun b_ => ?_ | refine n2_ fun b_ => ?_ | refine Nat1.mk fun q_ hq_ => ?_ | refine em_ fun x_ hx_ => ?_ | refine Elem1.mk fun e_ he_ => ?_); refine g1_ ?_))
        exact .refl _
  · have hsp := split_ok W hM s 59 (by omega)
    have hlen := splt_len 59 s
    have hne := splt_ne 59 s
    have hk0 : keyOfR s last = match (if (splt 59 s).all okN = true then some ((splt 59 s).map cntV) else none) with
      | none => (keyZ, false)
      | some n => if last = 90 then (⟨3, 0, 0, 1⟩, decide (n = [])) else if n.length = 2 ∧ ¬ (0 ≤ heldN n ∧ heldN n ≤ 7) then (keyZ, false) else
        match bareL.find? fun p => mtK last n p.2 with
        | some p => ({ p.1 with held := heldN n }, true)
        | none => (keyZ, false) := by
      unfold keyOfR numsOf
      rw [if_neg hs0]
    have hwl := splt_cnt59 s
    generalize splt 59 s = ws at *
    have hml : (List.map PV.str ws).length = ws.length := List.length_map _
    refine Pure.of (acalls_of_vc (drawOk W) Tryd.func59 rfl (by decide) (by decide) rfl ?_)
    (refine g0_ ?_; repeat ((first | refine n1_ fun b_ => ?_ | refine n2_ fun b_ => ?_ | refine Nat1.mk fun q_ hq_ => ?_ | refine em_ fun x_ hx_ => ?_ | refine Elem1.mk fun e_ he_ => ?_); refine g0_ ?_))
    (refine g1_ ?_; repeat ((first | refine n1_ fun b_ => ?_ | refine n2_ fun b_ => ?_ | refine Nat1.mk fun q_ hq_ => ?_ | refine em_ fun x_ hx_ => ?_ | refine Elem1.mk fun e_ he_ => ?_); refine g1_ ?_))
    refine (hsp).use ?_; (refine g0_ ?_; repeat ((first | refine n1_ fun b_ => ?_ | refine n2_ fun b_ => ?_ | refine Nat1.mk fun q_ hq_ => ?_ | refine em_ fun x_ hx_ => ?_ | refine Elem1.mk fun e_ he_ => ?_); refine g0_ ?_))
    (refine g1_ ?_; repeat ((first | refine n1_ fun b_ => ?_ | refine n2_ fun b_ => ?_ | refine Nat1.mk fun q_ hq_ => ?_ | refine em_ fun x_ hx_ => ?_ | refine Elem1.mk fun e_ he_ => ?_); refine g1_ ?_))
    obtain ⟨bz, rfl⟩ : ∃ z, z = b_ := ⟨_, rfl⟩
    refine' loopI (α := Nat × (List Int) × Nat) (fun (i, O, bb) => [(6, accV bb 1 (O.map (PV.int .i64))), (19, .int .i64 i)]) [(1, _), (4, _), (17, _), (18, _)] (fun (i, O, bb) => [⟨bz, .row 4 [.agg [.int .i64 0, .int .i32 0, .int .i64 0, .int .i64 0]] 0⟩] ++ accM bb 1 (O.map (PV.int .i64))) (fun (i, O, bb) => i ≤ ws.length ∧ O = (ws.take i).map cntV ∧ ∀ w ∈ ws.take i, okN w = true) (fun (i, O, bb) => ws.length - i) (0, [], 0) ?_ ?_
    · exact ⟨Nat.zero_le _, rfl, fun w hw => by cases hw⟩
    rintro ⟨i, O, bb⟩ ⟨hi, hO, hw⟩
    by_cases hie : i = ws.length
    · subst hie
      rw [List.take_length] at hO hw
      have hall : ws.all okN = true := List.all_eq_true.2 hw
      rw [hk0, if_pos hall, ← hO]
      have hOb : ∀ v ∈ O, 0 ≤ v ∧ v ≤ 9223372036854775807 := fun v hv => by
        rw [hO] at hv
        obtain ⟨w, hw, rfl⟩ := List.mem_map.1 hv
        have := cntV_i64 w
        unfold i64ok at this
        exact ⟨hb w hw, by have := this.2; omega⟩
      have hOn : O ≠ [] := by rw [hO]; simpa using hne
      clear hk0 hall hw hO hb hlen hne hsp hi hs0 hs hwl
      dsimp only
      rcases O with _ | ⟨a, _ | ⟨b, _ | ⟨c3, O⟩⟩⟩
      · exact absurd rfl hOn
      · have ha := hOb a (by simp)
        have hti := itoa_ok W hN a (by unfold i64ok; omega)
        have hia := Lib.itoa_length_le a (by omega) (by omega)
        by_cases h90 : last = 90
        · rw [if_pos h90]
          have h90' : last.toNat = 90 := by rw [h90]; rfl
          clear h90 hti
          (refine g0_ ?_; repeat ((first | refine n1_ fun b_ => ?_ | refine n2_ fun b_ => ?_ | refine Nat1.mk fun q_ hq_ => ?_ | refine em_ fun x_ hx_ => ?_ | refine Elem1.mk fun e_ he_ => ?_); refine g0_ ?_))
          (refine g1_ ?_; repeat ((first | refine n1_ fun b_ => ?_ | refine n2_ fun b_ => ?_ | refine Nat1.mk fun q_ hq_ => ?_ | refine em_ fun x_ hx_ => ?_ | refine Elem1.mk fun e_ he_ => ?_); refine g1_ ?_))
          exact .refl _
        · rw [if_neg h90, if_neg (by simp), show heldN [a] = 0 from rfl]
          have h90' : ¬ last.toNat = 90 := fun h => h90 (UInt8.toNat_inj.1 h)
          clear h90
          (refine g0_ ?_; repeat ((first | refine n1_ fun b_ => ?_ | refine n2_ fun b_ => ?_ | refine Nat1.mk fun q_ hq_ => ?_ | refine em_ fun x_ hx_ => ?_ | refine Elem1.mk fun e_ he_ => ?_); refine g0_ ?_))
          (refine g1_ ?_; repeat ((first | refine n1_ fun b_ => ?_ | refine n2_ fun b_ => ?_ | refine Nat1.mk fun q_ hq_ => ?_ | refine em_ fun x_ hx_ => ?_ | refine Elem1.mk fun e_ he_ => ?_); refine g1_ ?_))
          refine ACalls.giveE hsq ?_
          rintro bm -
          (refine g0_ ?_; repeat ((first | refine n1_ fun b_ => ?_ | refine n2_ fun b_ => ?_ | refine Nat1.mk fun q_ hq_ => ?_ | refine em_ fun x_ hx_ => ?_ | refine Elem1.mk fun e_ he_ => ?_); refine g0_ ?_))
          refine ⟨_, _, (by repeat (first | exact .here _ _ _ | apply Look.there)), fun st ck hst => ?_⟩
          (refine g0_ ?_; repeat ((first | refine n1_ fun b_ => ?_ | refine n2_ fun b_ => ?_ | refine Nat1.mk fun q_ hq_ => ?_ | refine em_ fun x_ hx_ => ?_ | refine Elem1.mk fun e_ he_ => ?_); refine g0_ ?_))
          obtain ⟨br, rfl⟩ : ∃ z, z = b_ := ⟨_, rfl⟩
          refine' loopI (α := (List Nat)) (fun is => []) [(1, _), (4, _), (6, _), (11, _), (57, _)] (fun is => [⟨br, .mit bm st ck is⟩, ⟨bm, .mps (bareEs 21) st ck⟩, ⟨bz, .row 4 [.agg [.int .i64 0, .int .i32 0, .int .i64 0, .int .i64 0]] 0⟩] ++ [⟨bb, .row 1 [.int .i64 a] 0⟩]) (fun is => ∀ i ∈ is, ∀ p, bareL[i]? = some p → mtK last [a] p.2 = false) (fun is => lftK is) [] ?_ ?_
          · exact fun i hi => by cases hi
          rintro is hno
          (refine g0_ ?_; repeat ((first | refine n1_ fun b_ => ?_ | refine n2_ fun b_ => ?_ | refine Nat1.mk fun q_ hq_ => ?_ | refine em_ fun x_ hx_ => ?_ | refine Elem1.mk fun e_ he_ => ?_); refine g0_ ?_))
          refine ⟨_, _, _, is, _, (by repeat (first | exact .here _ _ _ | apply Look.there)), bareEs 21, _, (by repeat (first | exact .here _ _ _ | apply Look.there)), fun i hi hni => ?_, fun hall => ?_⟩
          rotate_left
          · have hf := find_no hno hall
            rw [hf]
            clear hno
            (refine g0_ ?_; repeat ((first | refine n1_ fun b_ => ?_ | refine n2_ fun b_ => ?_ | refine Nat1.mk fun q_ hq_ => ?_ | refine em_ fun x_ hx_ => ?_ | refine Elem1.mk fun e_ he_ => ?_); refine g0_ ?_))
            exact .refl _
          obtain ⟨⟨⟨kd, r, n, hd⟩, t⟩, hp, hpe, hh, hl1, hl3⟩ := ent_bare hi
          rw [hpe]
          dsimp only at hh hl1 hl3
          subst hh
          (refine g0_ ?_; repeat ((first | refine n1_ fun b_ => ?_ | refine n2_ fun b_ => ?_ | refine Nat1.mk fun q_ hq_ => ?_ | refine em_ fun x_ hx_ => ?_ | refine Elem1.mk fun e_ he_ => ?_); refine g0_ ?_))
          refine ⟨_, _, _, is, i, _, (by repeat (first | exact .here _ _ _ | apply Look.there)), bareEs 21, _, (by repeat (first | exact .here _ _ _ | apply Look.there)), hi, ?_⟩
          rw [hpe]
          unfold encKey
          dsimp only
          have hlast := last_at hl1
          (refine g0_ ?_; repeat ((first | refine n1_ fun b_ => ?_ | refine n2_ fun b_ => ?_ | refine Nat1.mk fun q_ hq_ => ?_ | refine em_ fun x_ hx_ => ?_ | refine Elem1.mk fun e_ he_ => ?_); refine g0_ ?_))
          (refine g1_ ?_; repeat ((first | refine n1_ fun b_ => ?_ | refine n2_ fun b_ => ?_ | refine Nat1.mk fun q_ hq_ => ?_ | refine em_ fun x_ hx_ => ?_ | refine Elem1.mk fun e_ he_ => ?_); refine g1_ ?_))
          obtain rfl : q_ = t.length - 1 := by omega
          rw [hlast] at he_
          obtain rfl := Option.some.inj he_
          clear hlast hpe
          have hmt : mtK last [a] t = (decide (t.getLastD 0 = last) && (decide (last = 126) && decide (Lib.itoa a ++ [126] = t))) := by
            unfold mtK
            by_cases h : last = 126 <;> simp [h]
          generalize t.getLastD 0 = c at *
          have hnx : mtK last [a] t = false → ∀ j ∈ is ++ [i], ∀ p, bareL[j]? = some p → mtK last [a] p.2 = false := fun h j hj p hp' => by
            rcases List.mem_append.1 hj with hj | hj
            · exact hno j hj p hp'
            · obtain rfl := List.mem_singleton.1 hj
              rw [hp] at hp'
              obtain rfl := Option.some.inj hp'
              exact h
          have hfd : mtK last [a] t = true → bareL.find? (fun p => mtK last [a] p.2) = some (⟨kd, r, n, 0⟩, t) := fun h => find_mt hp h
          have hlt := lft_less (is := is) (show i < 21 from hi) hni
          clear hno hp
          by_cases hc : c = last
          rotate_left
          · rw [decide_eq_false hc, Bool.false_and] at hmt
            have hnx2 := hnx hmt
            have hc' : ¬ c.toNat = last.toNat := fun h => hc (UInt8.toNat_inj.1 h)
            clear hnx hfd hmt hc
            (refine g0_ ?_; repeat ((first | refine n1_ fun b_ => ?_ | refine n2_ fun b_ => ?_ | refine Nat1.mk fun q_ hq_ => ?_ | refine em_ fun x_ hx_ => ?_ | refine Elem1.mk fun e_ he_ => ?_); refine g0_ ?_))
            (refine g1_ ?_; repeat ((first | refine n1_ fun b_ => ?_ | refine n2_ fun b_ => ?_ | refine Nat1.mk fun q_ hq_ => ?_ | refine em_ fun x_ hx_ => ?_ | refine Elem1.mk fun e_ he_ => ?_); refine g1_ ?_))
            refine nx_ (is ++ [i]) ?_ ?_
            · exact hnx2
            · ((try dsimp only); (try simp only [List.length_drop, List.length_take, List.length_append, List.length_cons, List.length_nil, List.length_map] at *); omega)
          subst hc
          rw [decide_eq_true rfl, Bool.true_and] at hmt
          by_cases h126 : c = 126
          · rw [decide_eq_true h126, Bool.true_and] at hmt
            have h126' : c.toNat = 126 := by rw [h126]; rfl
            clear h126
            by_cases hit : Lib.itoa a ++ [126] = t
            · rw [decide_eq_true hit] at hmt
              rw [hfd hmt]
              clear hnx hfd hmt
              (refine g0_ ?_; repeat ((first | refine n1_ fun b_ => ?_ | refine n2_ fun b_ => ?_ | refine Nat1.mk fun q_ hq_ => ?_ | refine em_ fun x_ hx_ => ?_ | refine Elem1.mk fun e_ he_ => ?_); refine g0_ ?_))
              (refine g1_ ?_; repeat ((first | refine n1_ fun b_ => ?_ | refine n2_ fun b_ => ?_ | refine Nat1.mk fun q_ hq_ => ?_ | refine em_ fun x_ hx_ => ?_ | refine Elem1.mk fun e_ he_ => ?_); refine g1_ ?_))
              refine (hti).use ?_; (refine g0_ ?_; repeat ((first | refine n1_ fun b_ => ?_ | refine n2_ fun b_ => ?_ | refine Nat1.mk fun q_ hq_ => ?_ | refine em_ fun x_ hx_ => ?_ | refine Elem1.mk fun e_ he_ => ?_); refine g0_ ?_))
              (refine g1_ ?_; repeat ((first | refine n1_ fun b_ => ?_ | refine n2_ fun b_ => ?_ | refine Nat1.mk fun q_ hq_ => ?_ | refine em_ fun x_ hx_ => ?_ | refine Elem1.mk fun e_ he_ => ?_); refine g1_ ?_))
              exact .refl _
            · rw [decide_eq_false hit] at hmt
              have hnx2 := hnx hmt
              clear hnx hfd hmt
              (refine g0_ ?_; repeat ((first | refine n1_ fun b_ => ?_ | refine n2_ fun b_ => ?_ | refine Nat1.mk fun q_ hq_ => ?_ | refine em_ fun x_ hx_ => ?_ | refine Elem1.mk fun e_ he_ => ?_); refine g0_ ?_))
              (refine g1_ ?_; repeat ((first | refine n1_ fun b_ => ?_ | refine n2_ fun b_ => ?_ | refine Nat1.mk fun q_ hq_ => ?_ | refine em_ fun x_ hx_ => ?_ | refine Elem1.mk fun e_ he_ => ?_); refine g1_ ?_))
              refine (hti).use ?_; (refine g0_ ?_; repeat ((first | refine n1_ fun b_ => ?_ | refine n2_ fun b_ => ?_ | refine Nat1.mk fun q_ hq_ => ?_ | refine em_ fun x_ hx_ => ?_ | refine Elem1.mk fun e_ he_ => ?_); refine g0_ ?_))
              (refine g1_ ?_; repeat ((first | refine n1_ fun b_ => ?_ | refine n2_ fun b_ => ?_ | refine Nat1.mk fun q_ hq_ => ?_ | refine em_ fun x_ hx_ => ?_ | refine Elem1.mk fun e_ he_ => ?_); refine g1_ ?_))
              refine nx_ (is ++ [i]) ?_ ?_
              · exact hnx2
              · ((try dsimp only); (try simp only [List.length_drop, List.length_take, List.length_append, List.length_cons, List.length_nil, List.length_map] at *); omega)
          · rw [decide_eq_false h126, Bool.false_and] at hmt
            have h126' : ¬ c.toNat = 126 := fun h => h126 (UInt8.toNat_inj.1 h)
            clear h126
            have hnx2 := hnx hmt
            clear hnx hfd hmt
            (refine g0_ ?_; repeat ((first | refine n1_ fun b_ => ?_ | refine n2_ fun b_ => ?_ | refine Nat1.mk fun q_ hq_ => ?_ | refine em_ fun x_ hx_ => ?_ | refine Elem1.mk fun e_ he_ => ?_); refine g0_ ?_))
            (refine g1_ ?_; repeat ((first | refine n1_ fun b_ => ?_ | refine n2_ fun b_ => ?_ | refine Nat1.mk fun q_ hq_ => ?_ | refine em_ fun x_ hx_ => ?_ | refine Elem1.mk fun e_ he_ => ?_); refine g1_ ?_))
            refine nx_ (is ++ [i]) ?_ ?_
            · exact hnx2
            · ((try dsimp only); (try simp only [List.length_drop, List.length_take, List.length_append, List.length_cons, List.length_nil, List.length_map] at *); omega)
      · have ha := hOb a (by simp)
        have hb := hOb b (by simp)
        have hti := itoa_ok W hN a (by unfold i64ok; omega)
        have hia := Lib.itoa_length_le a (by omega) (by omega)
        clear hOb hOn
        by_cases h90 : last = 90
        · rw [if_pos h90]
          have h90' : last.toNat = 90 := by rw [h90]; rfl
          clear h90 hti
          (refine g0_ ?_; repeat ((first | refine n1_ fun b_ => ?_ | refine n2_ fun b_ => ?_ | refine Nat1.mk fun q_ hq_ => ?_ | refine em_ fun x_ hx_ => ?_ | refine Elem1.mk fun e_ he_ => ?_); refine g0_ ?_))
          (refine g1_ ?_; repeat ((first | refine n1_ fun b_ => ?_ | refine n2_ fun b_ => ?_ | refine Nat1.mk fun q_ hq_ => ?_ | refine em_ fun x_ hx_ => ?_ | refine Elem1.mk fun e_ he_ => ?_); refine g1_ ?_))
          exact .refl _
        · rw [if_neg h90, show heldN [a, b] = b - 1 from rfl]
          by_cases hh : 0 ≤ b - 1 ∧ b - 1 ≤ 7
          · rw [if_neg (by simpa using hh)]
            have h90' : ¬ last.toNat = 90 := fun h => h90 (UInt8.toNat_inj.1 h)
            clear h90
            (refine g0_ ?_; repeat ((first | refine n1_ fun b_ => ?_ | refine n2_ fun b_ => ?_ | refine Nat1.mk fun q_ hq_ => ?_ | refine em_ fun x_ hx_ => ?_ | refine Elem1.mk fun e_ he_ => ?_); refine g0_ ?_))
            (refine g1_ ?_; repeat ((first | refine n1_ fun b_ => ?_ | refine n2_ fun b_ => ?_ | refine Nat1.mk fun q_ hq_ => ?_ | refine em_ fun x_ hx_ => ?_ | refine Elem1.mk fun e_ he_ => ?_); refine g1_ ?_))
            refine ACalls.giveE hsq ?_
            rintro bm -
            (refine g0_ ?_; repeat ((first | refine n1_ fun b_ => ?_ | refine n2_ fun b_ => ?_ | refine Nat1.mk fun q_ hq_ => ?_ | refine em_ fun x_ hx_ => ?_ | refine Elem1.mk fun e_ he_ => ?_); refine g0_ ?_))
            refine ⟨_, _, (by repeat (first | exact .here _ _ _ | apply Look.there)), fun st ck hst => ?_⟩
            (refine g0_ ?_; repeat ((first | refine n1_ fun b_ => ?_ | refine n2_ fun b_ => ?_ | refine Nat1.mk fun q_ hq_ => ?_ | refine em_ fun x_ hx_ => ?_ | refine Elem1.mk fun e_ he_ => ?_); refine g0_ ?_))
            obtain ⟨br, rfl⟩ : ∃ z, z = b_ := ⟨_, rfl⟩
            refine' loopI (α := (List Nat)) (fun is => []) [(1, _), (4, _), (6, _), (11, _), (57, _)] (fun is => [⟨br, .mit bm st ck is⟩, ⟨bm, .mps (bareEs 21) st ck⟩, ⟨bz, .row 4 [.agg [.int .i64 0, .int .i32 0, .int .i64 0, .int .i64 0]] 0⟩] ++ [⟨bb, .row 1 [.int .i64 a, .int .i64 b] 0⟩]) (fun is => ∀ i ∈ is, ∀ p, bareL[i]? = some p → mtK last [a, b] p.2 = false) (fun is => lftK is) [] ?_ ?_
            · exact fun i hi => by cases hi
            rintro is hno
            (refine g0_ ?_; repeat ((first | refine n1_ fun b_ => ?_ | refine n2_ fun b_ => ?_ | refine Nat1.mk fun q_ hq_ => ?_ | refine em_ fun x_ hx_ => ?_ | refine Elem1.mk fun e_ he_ => ?_); refine g0_ ?_))
            refine ⟨_, _, _, is, _, (by repeat (first | exact .here _ _ _ | apply Look.there)), bareEs 21, _, (by repeat (first | exact .here _ _ _ | apply Look.there)), fun i hi hni => ?_, fun hall => ?_⟩
            rotate_left
            · have hf := find_no hno hall
              rw [hf]
              clear hno
              (refine g0_ ?_; repeat ((first | refine n1_ fun b_ => ?_ | refine n2_ fun b_ => ?_ | refine Nat1.mk fun q_ hq_ => ?_ | refine em_ fun x_ hx_ => ?_ | refine Elem1.mk fun e_ he_ => ?_); refine g0_ ?_))
              exact .refl _
            obtain ⟨⟨⟨kd, r, n, hd⟩, t⟩, hp, hpe, hh, hl1, hl3⟩ := ent_bare hi
            rw [hpe]
            dsimp only at hh hl1 hl3
            subst hh
            (refine g0_ ?_; repeat ((first | refine n1_ fun b_ => ?_ | refine n2_ fun b_ => ?_ | refine Nat1.mk fun q_ hq_ => ?_ | refine em_ fun x_ hx_ => ?_ | refine Elem1.mk fun e_ he_ => ?_); refine g0_ ?_))
            refine ⟨_, _, _, is, i, _, (by repeat (first | exact .here _ _ _ | apply Look.there)), bareEs 21, _, (by repeat (first | exact .here _ _ _ | apply Look.there)), hi, ?_⟩
            rw [hpe]
            unfold encKey
            dsimp only
            have hlast := last_at hl1
            (refine g0_ ?_; repeat ((first | refine n1_ fun b_ => ?_ | refine n2_ fun b_ => ?_ | refine Nat1.mk fun q_ hq_ => ?_ | refine em_ fun x_ hx_ => ?_ | refine Elem1.mk fun e_ he_ => ?_); refine g0_ ?_))
            (refine g1_ ?_; repeat ((first | refine n1_ fun b_ => ?_ | refine n2_ fun b_ => ?_ | refine Nat1.mk fun q_ hq_ => ?_ | refine em_ fun x_ hx_ => ?_ | refine Elem1.mk fun e_ he_ => ?_); refine g1_ ?_))
            obtain rfl : q_ = t.length - 1 := by omega
            rw [hlast] at he_
            obtain rfl := Option.some.inj he_
            clear hlast hpe
            have hmt : mtK last [a, b] t = (decide (t.getLastD 0 = last) && (if last = 126 then decide (Lib.itoa a ++ [126] = t) else decide (a = 1))) := by
              unfold mtK
              by_cases h : last = 126 <;> simp [h]
            generalize t.getLastD 0 = c at *
            have hnx : mtK last [a, b] t = false → ∀ j ∈ is ++ [i], ∀ p, bareL[j]? = some p → mtK last [a, b] p.2 = false := fun h j hj p hp' => by
              rcases List.mem_append.1 hj with hj | hj
              · exact hno j hj p hp'
              · obtain rfl := List.mem_singleton.1 hj
                rw [hp] at hp'
                obtain rfl := Option.some.inj hp'
                exact h
            have hfd : mtK last [a, b] t = true → bareL.find? (fun p => mtK last [a, b] p.2) = some (⟨kd, r, n, 0⟩, t) := fun h => find_mt hp h
            have hlt := lft_less (is := is) (show i < 21 from hi) hni
            clear hno hp
            by_cases hc : c = last
            rotate_left
            · rw [decide_eq_false hc, Bool.false_and] at hmt
              have hnx2 := hnx hmt
              have hc' : ¬ c.toNat = last.toNat := fun h => hc (UInt8.toNat_inj.1 h)
              clear hnx hfd hmt hc
              (refine g0_ ?_; repeat ((first | refine n1_ fun b_ => ?_ | refine n2_ fun b_ => ?_ | refine Nat1.mk fun q_ hq_ => ?_ | refine em_ fun x_ hx_ => ?_ | refine Elem1.mk fun e_ he_ => ?_); refine g0_ ?_))
              (refine g1_ ?_; repeat ((first | refine n1_ fun b_ => ?_ | refine n2_ fun b_ => ?_ | refine Nat1.mk fun q_ hq_ => ?_ | refine em_ fun x_ hx_ => ?_ | refine Elem1.mk fun e_ he_ => ?_); refine g1_ ?_))
              refine nx_ (is ++ [i]) ?_ ?_
              · exact hnx2
              · ((try dsimp only); (try simp only [List.length_drop, List.length_take, List.length_append, List.length_cons, List.length_nil, List.length_map] at *); omega)
            subst hc
            rw [decide_eq_true rfl, Bool.true_and] at hmt
            by_cases h126 : c = 126
            · rw [if_pos h126] at hmt
              have h126' : c.toNat = 126 := by rw [h126]; rfl
              clear h126
              by_cases hit : Lib.itoa a ++ [126] = t
              · rw [decide_eq_true hit] at hmt
                rw [hfd hmt]
                clear hnx hfd hmt
                (refine g0_ ?_; repeat ((first | refine n1_ fun b_ => ?_ | refine n2_ fun b_ => ?_ | refine Nat1.mk fun q_ hq_ => ?_ | refine em_ fun x_ hx_ => ?_ | refine Elem1.mk fun e_ he_ => ?_); refine g0_ ?_))
                (refine g1_ ?_; repeat ((first | refine n1_ fun b_ => ?_ | refine n2_ fun b_ => ?_ | refine Nat1.mk fun q_ hq_ => ?_ | refine em_ fun x_ hx_ => ?_ | refine Elem1.mk fun e_ he_ => ?_); refine g1_ ?_))
                refine (hti).use ?_; (refine g0_ ?_; repeat ((first | refine n1_ fun b_ => ?_ | refine n2_ fun b_ => ?_ | refine Nat1.mk fun q_ hq_ => ?_ | refine em_ fun x_ hx_ => ?_ | refine Elem1.mk fun e_ he_ => ?_); refine g0_ ?_))
                (refine g1_ ?_; repeat ((first | refine n1_ fun b_ => ?_ | refine n2_ fun b_ => ?_ | refine Nat1.mk fun q_ hq_ => ?_ | refine em_ fun x_ hx_ => ?_ | refine Elem1.mk fun e_ he_ => ?_); refine g1_ ?_))
                exact .refl _
              · rw [decide_eq_false hit] at hmt
                have hnx2 := hnx hmt
                clear hnx hfd hmt
                (refine g0_ ?_; repeat ((first | refine n1_ fun b_ => ?_ | refine n2_ fun b_ => ?_ | refine Nat1.mk fun q_ hq_ => ?_ | refine em_ fun x_ hx_ => ?_ | refine Elem1.mk fun e_ he_ => ?_); refine g0_ ?_))
                (refine g1_ ?_; repeat ((first | refine n1_ fun b_ => ?_ | refine n2_ fun b_ => ?_ | refine Nat1.mk fun q_ hq_ => ?_ | refine em_ fun x_ hx_ => ?_ | refine Elem1.mk fun e_ he_ => ?_); refine g1_ ?_))
                refine (hti).use ?_; (refine g0_ ?_; repeat ((first | refine n1_ fun b_ => ?_ | refine n2_ fun b_ => ?_ | refine Nat1.mk fun q_ hq_ => ?_ | refine em_ fun x_ hx_ => ?_ | refine Elem1.mk fun e_ he_ => ?_); refine g0_ ?_))
                (refine g1_ ?_; repeat ((first | refine n1_ fun b_ => ?_ | refine n2_ fun b_ => ?_ | refine Nat1.mk fun q_ hq_ => ?_ | refine em_ fun x_ hx_ => ?_ | refine Elem1.mk fun e_ he_ => ?_); refine g1_ ?_))
                refine nx_ (is ++ [i]) ?_ ?_
                · exact hnx2
                · ((try dsimp only); (try simp only [List.length_drop, List.length_take, List.length_append, List.length_cons, List.length_nil, List.length_map] at *); omega)
            · rw [if_neg h126] at hmt
              have h126' : ¬ c.toNat = 126 := fun h => h126 (UInt8.toNat_inj.1 h)
              clear h126
              by_cases ha1 : a = 1
              · rw [decide_eq_true ha1] at hmt
                rw [hfd hmt]
                clear hnx hfd hmt
                (refine g0_ ?_; repeat ((first | refine n1_ fun b_ => ?_ | refine n2_ fun b_ => ?_ | refine Nat1.mk fun q_ hq_ => ?_ | refine em_ fun x_ hx_ => ?_ | refine Elem1.mk fun e_ he_ => ?_); refine g0_ ?_))
                (refine g1_ ?_; repeat ((first | refine n1_ fun b_ => ?_ | refine n2_ fun b_ => ?_ | refine Nat1.mk fun q_ hq_ => ?_ | refine em_ fun x_ hx_ => ?_ | refine Elem1.mk fun e_ he_ => ?_); refine g1_ ?_))
                exact .refl _
              · rw [decide_eq_false ha1] at hmt
                have hnx2 := hnx hmt
                clear hnx hfd hmt
                (refine g0_ ?_; repeat ((first | refine n1_ fun b_ => ?_ | refine n2_ fun b_ => ?_ | refine Nat1.mk fun q_ hq_ => ?_ | refine em_ fun x_ hx_ => ?_ | refine Elem1.mk fun e_ he_ => ?_); refine g0_ ?_))
                (refine g1_ ?_; repeat ((first | refine n1_ fun b_ => ?_ | refine n2_ fun b_ => ?_ | refine Nat1.mk fun q_ hq_ => ?_ | refine em_ fun x_ hx_ => ?_ | refine Elem1.mk fun e_ he_ => ?_); refine g1_ ?_))
                refine nx_ (is ++ [i]) ?_ ?_
                · exact hnx2
                · ((try dsimp only); (try simp only [List.length_drop, List.length_take, List.length_append, List.length_cons, List.length_nil, List.length_map] at *); omega)
          · rw [if_pos ⟨rfl, hh⟩]
            have h90' : ¬ last.toNat = 90 := fun h => h90 (UInt8.toNat_inj.1 h)
            clear h90 hti
            by_cases hb0 : b - 1 < 0
            · (refine g0_ ?_; repeat ((first | refine n1_ fun b_ => ?_ | refine n2_ fun b_ => ?_ | refine Nat1.mk fun q_ hq_ => ?_ | refine em_ fun x_ hx_ => ?_ | refine Elem1.mk fun e_ he_ => ?_); refine g0_ ?_))
              (refine g1_ ?_; repeat ((first | refine n1_ fun b_ => ?_ | refine n2_ fun b_ => ?_ | refine Nat1.mk fun q_ hq_ => ?_ | refine em_ fun x_ hx_ => ?_ | refine Elem1.mk fun e_ he_ => ?_); refine g1_ ?_))
              exact .refl _
            · have hb7 : 7 < b - 1 := by omega
              clear hh
              (refine g0_ ?_; repeat ((first | refine n1_ fun b_ => ?_ | refine n2_ fun b_ => ?_ | refine Nat1.mk fun q_ hq_ => ?_ | refine em_ fun x_ hx_ => ?_ | refine Elem1.mk fun e_ he_ => ?_); refine g0_ ?_))
              (refine g1_ ?_; repeat ((first | refine n1_ fun b_ => ?_ | refine n2_ fun b_ => ?_ | refine Nat1.mk fun q_ hq_ => ?_ | refine em_ fun x_ hx_ => ?_ | refine Elem1.mk fun e_ he_ => ?_); refine g1_ ?_))
              exact .refl _
      · obtain ⟨m, hm⟩ : ∃ m, m = O.length + 3 := ⟨_, rfl⟩
        have e1 : accV bb 1 (List.map (PV.int .i64) (a :: b :: c3 :: O)) = .rsl bb 1 0 m := by
          show PV.rsl bb 1 0 ((List.map (PV.int .i64) (b :: c3 :: O)).length + 1) = _
          rw [List.length_map, hm]
          rfl
        have e2 : accM bb 1 (List.map (PV.int .i64) (a :: b :: c3 :: O)) = [⟨bb, .row 1 (List.map (PV.int .i64) (a :: b :: c3 :: O)) 0⟩] := rfl
        rw [e1, e2]
        clear e1 e2
        have hm3 : 3 ≤ m := by omega
        have hlm : (List.map (PV.int .i64) (a :: b :: c3 :: O)).length = m := by rw [List.length_map, hm]; rfl
        generalize List.map (PV.int .i64) (a :: b :: c3 :: O) = PL at *
        clear hOb hOn hm
        by_cases h90 : last = 90
        · rw [if_pos h90, show decide (a :: b :: c3 :: O = []) = false by simp]
          have h90' : last.toNat = 90 := by rw [h90]; rfl
          clear h90
          (refine g0_ ?_; repeat ((first | refine n1_ fun b_ => ?_ | refine n2_ fun b_ => ?_ | refine Nat1.mk fun q_ hq_ => ?_ | refine em_ fun x_ hx_ => ?_ | refine Elem1.mk fun e_ he_ => ?_); refine g0_ ?_))
          (refine g1_ ?_; repeat ((first | refine n1_ fun b_ => ?_ | refine n2_ fun b_ => ?_ | refine Nat1.mk fun q_ hq_ => ?_ | refine em_ fun x_ hx_ => ?_ | refine Elem1.mk fun e_ he_ => ?_); refine g1_ ?_))
          exact frz_tup2 (.refl _) (decide_eq_false (show ¬ ((m : Nat) : Int) = 0 by omega) ▸ .refl _)
        · rw [if_neg h90, if_neg (by simp), show heldN (a :: b :: c3 :: O) = 0 by simp [heldN]]
          have h90' : ¬ last.toNat = 90 := fun h => h90 (UInt8.toNat_inj.1 h)
          clear h90
          (refine g0_ ?_; repeat ((first | refine n1_ fun b_ => ?_ | refine n2_ fun b_ => ?_ | refine Nat1.mk fun q_ hq_ => ?_ | refine em_ fun x_ hx_ => ?_ | refine Elem1.mk fun e_ he_ => ?_); refine g0_ ?_))
          (refine g1_ ?_; repeat ((first | refine n1_ fun b_ => ?_ | refine n2_ fun b_ => ?_ | refine Nat1.mk fun q_ hq_ => ?_ | refine em_ fun x_ hx_ => ?_ | refine Elem1.mk fun e_ he_ => ?_); refine g1_ ?_))
          refine ACalls.giveE hsq ?_
          rintro bm -
          (refine g0_ ?_; repeat ((first | refine n1_ fun b_ => ?_ | refine n2_ fun b_ => ?_ | refine Nat1.mk fun q_ hq_ => ?_ | refine em_ fun x_ hx_ => ?_ | refine Elem1.mk fun e_ he_ => ?_); refine g0_ ?_))
          refine ⟨_, _, (by repeat (first | exact .here _ _ _ | apply Look.there)), fun st ck hst => ?_⟩
          (refine g0_ ?_; repeat ((first | refine n1_ fun b_ => ?_ | refine n2_ fun b_ => ?_ | refine Nat1.mk fun q_ hq_ => ?_ | refine em_ fun x_ hx_ => ?_ | refine Elem1.mk fun e_ he_ => ?_); refine g0_ ?_))
          obtain ⟨br, rfl⟩ : ∃ z, z = b_ := ⟨_, rfl⟩
          refine' loopI (α := (List Nat)) (fun is => []) [(1, _), (4, _), (6, _), (11, _), (57, _)] (fun is => [⟨br, .mit bm st ck is⟩, ⟨bm, .mps (bareEs 21) st ck⟩, ⟨bz, .row 4 [.agg [.int .i64 0, .int .i32 0, .int .i64 0, .int .i64 0]] 0⟩] ++ [⟨bb, .row 1 PL 0⟩]) (fun is => ∀ i ∈ is, ∀ p, bareL[i]? = some p → mtK last (a :: b :: c3 :: O) p.2 = false) (fun is => lftK is) [] ?_ ?_
          · exact fun i hi => by cases hi
          rintro is hno
          (refine g0_ ?_; repeat ((first | refine n1_ fun b_ => ?_ | refine n2_ fun b_ => ?_ | refine Nat1.mk fun q_ hq_ => ?_ | refine em_ fun x_ hx_ => ?_ | refine Elem1.mk fun e_ he_ => ?_); refine g0_ ?_))
          refine ⟨_, _, _, is, _, (by repeat (first | exact .here _ _ _ | apply Look.there)), bareEs 21, _, (by repeat (first | exact .here _ _ _ | apply Look.there)), fun i hi hni => ?_, fun hall => ?_⟩
          rotate_left
          · have hf := find_no hno hall
            rw [hf]
            clear hno
            (refine g0_ ?_; repeat ((first | refine n1_ fun b_ => ?_ | refine n2_ fun b_ => ?_ | refine Nat1.mk fun q_ hq_ => ?_ | refine em_ fun x_ hx_ => ?_ | refine Elem1.mk fun e_ he_ => ?_); refine g0_ ?_))
            exact .refl _
          obtain ⟨⟨⟨kd, r, n, hd⟩, t⟩, hp, hpe, hh, hl1, hl3⟩ := ent_bare hi
          rw [hpe]
          dsimp only at hh hl1 hl3
          subst hh
          (refine g0_ ?_; repeat ((first | refine n1_ fun b_ => ?_ | refine n2_ fun b_ => ?_ | refine Nat1.mk fun q_ hq_ => ?_ | refine em_ fun x_ hx_ => ?_ | refine Elem1.mk fun e_ he_ => ?_); refine g0_ ?_))
          refine ⟨_, _, _, is, i, _, (by repeat (first | exact .here _ _ _ | apply Look.there)), bareEs 21, _, (by repeat (first | exact .here _ _ _ | apply Look.there)), hi, ?_⟩
          rw [hpe]
          unfold encKey
          dsimp only
          have hlast := last_at hl1
          (refine g0_ ?_; repeat ((first | refine n1_ fun b_ => ?_ | refine n2_ fun b_ => ?_ | refine Nat1.mk fun q_ hq_ => ?_ | refine em_ fun x_ hx_ => ?_ | refine Elem1.mk fun e_ he_ => ?_); refine g0_ ?_))
          (refine g1_ ?_; repeat ((first | refine n1_ fun b_ => ?_ | refine n2_ fun b_ => ?_ | refine Nat1.mk fun q_ hq_ => ?_ | refine em_ fun x_ hx_ => ?_ | refine Elem1.mk fun e_ he_ => ?_); refine g1_ ?_))
          obtain rfl : q_ = t.length - 1 := by omega
          rw [hlast] at he_
          obtain rfl := Option.some.inj he_
          clear hlast hpe
          have hmt : mtK last (a :: b :: c3 :: O) t = (decide (t.getLastD 0 = last) && false) := by
            unfold mtK
            by_cases h : last = 126 <;> simp [h]
          generalize t.getLastD 0 = c at *
          have hnx : mtK last (a :: b :: c3 :: O) t = false → ∀ j ∈ is ++ [i], ∀ p, bareL[j]? = some p → mtK last (a :: b :: c3 :: O) p.2 = false := fun h j hj p hp' => by
            rcases List.mem_append.1 hj with hj | hj
            · exact hno j hj p hp'
            · obtain rfl := List.mem_singleton.1 hj
              rw [hp] at hp'
              obtain rfl := Option.some.inj hp'
              exact h
          have hfd : mtK last (a :: b :: c3 :: O) t = true → bareL.find? (fun p => mtK last (a :: b :: c3 :: O) p.2) = some (⟨kd, r, n, 0⟩, t) := fun h => find_mt hp h
          have hlt := lft_less (is := is) (show i < 21 from hi) hni
          clear hno hp
          by_cases hc : c = last
          rotate_left
          · rw [decide_eq_false hc, Bool.false_and] at hmt
            have hnx2 := hnx hmt
            have hc' : ¬ c.toNat = last.toNat := fun h => hc (UInt8.toNat_inj.1 h)
            clear hnx hfd hmt hc
            (refine g0_ ?_; repeat ((first | refine n1_ fun b_ => ?_ | refine n2_ fun b_ => ?_ | refine Nat1.mk fun q_ hq_ => ?_ | refine em_ fun x_ hx_ => ?_ | refine Elem1.mk fun e_ he_ => ?_); refine g0_ ?_))
            (refine g1_ ?_; repeat ((first | refine n1_ fun b_ => ?_ | refine n2_ fun b_ => ?_ | refine Nat1.mk fun q_ hq_ => ?_ | refine em_ fun x_ hx_ => ?_ | refine Elem1.mk fun e_ he_ => ?_); refine g1_ ?_))
            refine nx_ (is ++ [i]) ?_ ?_
            · exact hnx2
            · ((try dsimp only); (try simp only [List.length_drop, List.length_take, List.length_append, List.length_cons, List.length_nil, List.length_map] at *); omega)
          subst hc
          rw [decide_eq_true rfl, Bool.true_and] at hmt
          by_cases h126 : c = 126
          · have h126' : c.toNat = 126 := by rw [h126]; rfl
            clear h126
            have hnx2 := hnx hmt
            clear hnx hfd hmt
            (refine g0_ ?_; repeat ((first | refine n1_ fun b_ => ?_ | refine n2_ fun b_ => ?_ | refine Nat1.mk fun q_ hq_ => ?_ | refine em_ fun x_ hx_ => ?_ | refine Elem1.mk fun e_ he_ => ?_); refine g0_ ?_))
            (refine g1_ ?_; repeat ((first | refine n1_ fun b_ => ?_ | refine n2_ fun b_ => ?_ | refine Nat1.mk fun q_ hq_ => ?_ | refine em_ fun x_ hx_ => ?_ | refine Elem1.mk fun e_ he_ => ?_); refine g1_ ?_))
            refine ⟨is ++ [i], hnx2, hlt, ?_, ?_⟩
            · (repeat (refine wkEnv.cons (by first | rfl | ((conv => lhs; whnf); first | rfl | (congr 1; (try push_cast); omega) | (congr 1; simp; done) | (congr 1; simp; omega) | (simp; done) | (simp [*]; done))) ?_))
              exact wkEnv.nil
            · (first | exact ⟨_, .refl _⟩ | exact wkMem.rfl' | exact ⟨_, .swap _ _ _⟩ | (repeat (first | exact wkMem.nil _ | exact wkMem.rfl' | exact wk_snoc _ _ _ | exact wk_fam (by assumption) _ _ _ | exact wk_famN (by assumption) _ _ _ | (apply wkMem.cons; (case' hl => (repeat (first | exact .here _ _ _ | apply Look.there)))) | apply wkMem.skip)))
          · have h126' : ¬ c.toNat = 126 := fun h => h126 (UInt8.toNat_inj.1 h)
            clear h126
            have hnx2 := hnx hmt
            clear hnx hfd hmt
            (refine g0_ ?_; repeat ((first | refine n1_ fun b_ => ?_ | refine n2_ fun b_ => ?_ | refine Nat1.mk fun q_ hq_ => ?_ | refine em_ fun x_ hx_ => ?_ | refine Elem1.mk fun e_ he_ => ?_); refine g0_ ?_))
            (refine g1_ ?_; repeat ((first | refine n1_ fun b_ => ?_ | refine n2_ fun b_ => ?_ | refine Nat1.mk fun q_ hq_ => ?_ | refine em_ fun x_ hx_ => ?_ | refine Elem1.mk fun e_ he_ => ?_); refine g1_ ?_))
            rw [show (decide (((m : Nat) : Int) = 0) || false) = false by rw [decide_eq_false (by omega)]; rfl]
            (refine g1_ ?_; repeat ((first | refine n1_ fun b_ => ?_ | refine n2_ fun b_ => ?_ | refine Nat1.mk fun q_ hq_ => ?_ | refine em_ fun x_ hx_ => ?_ | refine Elem1.mk fun e_ he_ => ?_); refine g1_ ?_))
            refine ⟨is ++ [i], hnx2, hlt, ?_, ?_⟩
            · (repeat (refine wkEnv.cons (by first | rfl | ((conv => lhs; whnf); first | rfl | (congr 1; (try push_cast); omega) | (congr 1; simp; done) | (congr 1; simp; omega) | (simp; done) | (simp [*]; done))) ?_))
              exact wkEnv.nil
            · (first | exact ⟨_, .refl _⟩ | exact wkMem.rfl' | exact ⟨_, .swap _ _ _⟩ | (repeat (first | exact wkMem.nil _ | exact wkMem.rfl' | exact wk_snoc _ _ _ | exact wk_fam (by assumption) _ _ _ | exact wk_famN (by assumption) _ _ _ | (apply wkMem.cons; (case' hl => (repeat (first | exact .here _ _ _ | apply Look.there)))) | apply wkMem.skip)))
    · have hil : i < ws.length := by omega
      obtain ⟨w, hwi⟩ : ∃ w, ws[i]? = some w := ⟨ws[i]'(by omega), List.getElem?_eq_getElem _⟩
      have ha := atoi_ok W hE w (by have := hlen w (List.mem_of_getElem? hwi); omega)
      rw [show errP (isOk (Lib.atoiAll w)) = errP (okN w) from rfl] at ha
      cases hk : okN w with
      | false =>
        rw [hk] at ha
        unfold errP at ha
        rw [if_neg (by decide)] at ha
        have hall : ¬ ws.all okN = true := fun h => by
          have := List.all_eq_true.1 h w (List.mem_of_getElem? hwi)
          rw [hk] at this
          cases this
        rw [hk0, if_neg hall]
        clear hk0 hall hk
        cases O
        · (refine g0_ ?_; repeat ((first | refine n1_ fun b_ => ?_ | refine n2_ fun b_ => ?_ | refine Nat1.mk fun q_ hq_ => ?_ | refine em_ fun x_ hx_ => ?_ | refine Elem1.mk fun e_ he_ => ?_); refine g0_ ?_))
          (refine g1_ ?_; repeat ((first | refine n1_ fun b_ => ?_ | refine n2_ fun b_ => ?_ | refine Nat1.mk fun q_ hq_ => ?_ | refine em_ fun x_ hx_ => ?_ | refine Elem1.mk fun e_ he_ => ?_); refine g1_ ?_))
          refine (ha).use ?_; (refine g0_ ?_; repeat ((first | refine n1_ fun b_ => ?_ | refine n2_ fun b_ => ?_ | refine Nat1.mk fun q_ hq_ => ?_ | refine em_ fun x_ hx_ => ?_ | refine Elem1.mk fun e_ he_ => ?_); refine g0_ ?_))
          refine ⟨_, neq_held (by kernel_rfl), ?_⟩
          (refine g1_ ?_; repeat ((first | refine n1_ fun b_ => ?_ | refine n2_ fun b_ => ?_ | refine Nat1.mk fun q_ hq_ => ?_ | refine em_ fun x_ hx_ => ?_ | refine Elem1.mk fun e_ he_ => ?_); refine g1_ ?_))
          exact .refl _
        · (refine g0_ ?_; repeat ((first | refine n1_ fun b_ => ?_ | refine n2_ fun b_ => ?_ | refine Nat1.mk fun q_ hq_ => ?_ | refine em_ fun x_ hx_ => ?_ | refine Elem1.mk fun e_ he_ => ?_); refine g0_ ?_))
          (refine g1_ ?_; repeat ((first | refine n1_ fun b_ => ?_ | refine n2_ fun b_ => ?_ | refine Nat1.mk fun q_ hq_ => ?_ | refine em_ fun x_ hx_ => ?_ | refine Elem1.mk fun e_ he_ => ?_); refine g1_ ?_))
          refine (ha).use ?_; (refine g0_ ?_; repeat ((first | refine n1_ fun b_ => ?_ | refine n2_ fun b_ => ?_ | refine Nat1.mk fun q_ hq_ => ?_ | refine em_ fun x_ hx_ => ?_ | refine Elem1.mk fun e_ he_ => ?_); refine g0_ ?_))
          refine ⟨_, neq_held (by kernel_rfl), ?_⟩
          (refine g1_ ?_; repeat ((first | refine n1_ fun b_ => ?_ | refine n2_ fun b_ => ?_ | refine Nat1.mk fun q_ hq_ => ?_ | refine em_ fun x_ hx_ => ?_ | refine Elem1.mk fun e_ he_ => ?_); refine g1_ ?_))
          exact .refl _
      | true =>
        rw [hk] at ha
        unfold errP at ha
        rw [if_pos rfl] at ha
        have hO2 : O ++ [cntV w] = (ws.take (i + 1)).map cntV := by rw [take_snoc_of hwi, List.map_append, ← hO]; rfl
        have hw2 : ∀ x ∈ ws.take (i + 1), okN x = true := fun x hx => by
          rw [take_snoc_of hwi] at hx
          rcases List.mem_append.1 hx with hx | hx
          · exact hw x hx
          · rw [List.mem_singleton.1 hx]; exact hk
        have hOl : O.length = i := by rw [hO, List.length_map, List.length_take]; omega
        clear hk0 hk hO hw hb hsq
        generalize cntV w = v at *
        have hom : (List.map (PV.int .i64) O).length = O.length := List.length_map _
        rcases O with _ | ⟨o0, O⟩
        · (refine g0_ ?_; repeat ((first | refine n1_ fun b_ => ?_ | refine n2_ fun b_ => ?_ | refine Nat1.mk fun q_ hq_ => ?_ | refine em_ fun x_ hx_ => ?_ | refine Elem1.mk fun e_ he_ => ?_); refine g0_ ?_))
          (refine g1_ ?_; repeat ((first | refine n1_ fun b_ => ?_ | refine n2_ fun b_ => ?_ | refine Nat1.mk fun q_ hq_ => ?_ | refine em_ fun x_ hx_ => ?_ | refine Elem1.mk fun e_ he_ => ?_); refine g1_ ?_))
          refine (ha).use ?_; (refine g0_ ?_; repeat ((first | refine n1_ fun b_ => ?_ | refine n2_ fun b_ => ?_ | refine Nat1.mk fun q_ hq_ => ?_ | refine em_ fun x_ hx_ => ?_ | refine Elem1.mk fun e_ he_ => ?_); refine g0_ ?_))
          refine ⟨_, neq_nil0 (by kernel_rfl), ?_⟩
          (refine g1_ ?_; repeat ((first | refine n1_ fun b_ => ?_ | refine n2_ fun b_ => ?_ | refine Nat1.mk fun q_ hq_ => ?_ | refine em_ fun x_ hx_ => ?_ | refine Elem1.mk fun e_ he_ => ?_); refine g1_ ?_))
          refine .inl ?_
          (refine g0_ ?_; repeat ((first | refine n1_ fun b_ => ?_ | refine n2_ fun b_ => ?_ | refine Nat1.mk fun q_ hq_ => ?_ | refine em_ fun x_ hx_ => ?_ | refine Elem1.mk fun e_ he_ => ?_); refine g0_ ?_))
          refine nx_ (i + 1, [v], b_) ?_ ?_
          · exact ⟨by omega, hO2, hw2⟩
          · ((try dsimp only); (try simp only [List.length_drop, List.length_take, List.length_append, List.length_cons, List.length_nil, List.length_map] at *); omega)
        · simp only [List.length_cons] at hOl
          (refine g0_ ?_; repeat ((first | refine n1_ fun b_ => ?_ | refine n2_ fun b_ => ?_ | refine Nat1.mk fun q_ hq_ => ?_ | refine em_ fun x_ hx_ => ?_ | refine Elem1.mk fun e_ he_ => ?_); refine g0_ ?_))
          (refine g1_ ?_; repeat ((first | refine n1_ fun b_ => ?_ | refine n2_ fun b_ => ?_ | refine Nat1.mk fun q_ hq_ => ?_ | refine em_ fun x_ hx_ => ?_ | refine Elem1.mk fun e_ he_ => ?_); refine g1_ ?_))
          refine (ha).use ?_; (refine g0_ ?_; repeat ((first | refine n1_ fun b_ => ?_ | refine n2_ fun b_ => ?_ | refine Nat1.mk fun q_ hq_ => ?_ | refine em_ fun x_ hx_ => ?_ | refine Elem1.mk fun e_ he_ => ?_); refine g0_ ?_))
          refine ⟨_, neq_nil0 (by kernel_rfl), ?_⟩
          (refine g1_ ?_; repeat ((first | refine n1_ fun b_ => ?_ | refine n2_ fun b_ => ?_ | refine Nat1.mk fun q_ hq_ => ?_ | refine em_ fun x_ hx_ => ?_ | refine Elem1.mk fun e_ he_ => ?_); refine g1_ ?_))
          refine .inl ?_
          (refine g0_ ?_; repeat ((first | refine n1_ fun b_ => ?_ | refine n2_ fun b_ => ?_ | refine Nat1.mk fun q_ hq_ => ?_ | refine em_ fun x_ hx_ => ?_ | refine Elem1.mk fun e_ he_ => ?_); refine g0_ ?_))
          rw [show ∀ u : PV, (List.map (PV.int .i64) O).length + 1 + [u].length = (List.map (PV.int .i64) (O ++ [v])).length + 1 from fun u => by simp]
          (rw [show ∀ u : PV, u = PV.int .i64 v → (PV.int .i64 o0 :: List.map (PV.int .i64) O) ++ [u] = List.map (PV.int .i64) (o0 :: O ++ [v]) from fun u hu => by simp [hu]]; rotate_left; rfl)
          refine nx_ (i + 1, o0 :: O ++ [v], b_) ?_ ?_
          · exact ⟨by omega, hO2, hw2⟩
          · ((try dsimp only); (try simp only [List.length_drop, List.length_take, List.length_append, List.length_cons, List.length_nil, List.length_map] at *); omega)
end Go.Eng.YtimpfhokacfobaaDoor
end

/- Keys: what the reference's keyOf gives, by what the program tells (plain). -/
section
namespace Go.Eng.YtimpfhokacfobaaDoor
open Go Go.Eng Go.Proofs
set_option linter.unusedSimpArgs false
set_option maxRecDepth 100000
set_option linter.unusedVariables false
theorem cnt_pos {w : List UInt8} (h : ∀ c ∈ w, c.toNat ≠ 45) : 0 ≤ cntV w := by
  unfold cntV
  cases w with
  | nil => decide
  | cons c r =>
    have h45 := h c (by simp)
    unfold Lib.atoiAll Lib.atoiSat
    dsimp only
    split
    · rename_i n hn
      split at hn
      · cases hn
      · cases hn
      · split at hn
        · cases hn
        · split at hn
          · cases hn
          · cases hn
            exact Int.natCast_nonneg _
    · exact Int.le_refl 0
    · rw [if_neg (by simpa using h45)]
      decide
theorem last_bare : ∀ c : Fin 256, c.val ≠ 126 → (bareL.find? fun p => decide (p.2.getLastD 0 = UInt8.ofNat c.val)).map Prod.fst = if arrowK c.val ≠ 0 then some ⟨arrowK c.val, 0, 0, 0⟩ else none := by decide +kernel
theorem find_arrow (last : UInt8) (h : last ≠ 126) (n : List Int) : (bareL.find? fun p => mtK last n p.2).map Prod.fst = if arrowK last.toNat ≠ 0 ∧ (n = [] ∨ (n.length = 2 ∧ n.getD 0 0 = 1)) then some ⟨arrowK last.toNat, 0, 0, 0⟩ else none := by
  have hl := last_bare ⟨last.toNat, last.toNat_lt⟩ (fun e => h (UInt8.toNat_inj.1 e))
  dsimp only at hl
  rw [UInt8.ofNat_toNat] at hl
  have e : (fun p : Key × List UInt8 => mtK last n p.2) = fun p => decide (p.2.getLastD 0 = last) && decide (n = [] ∨ (n.length = 2 ∧ n.getD 0 0 = 1)) := by
    funext p
    unfold mtK
    rw [if_pos h]
    simp
  rw [e]
  by_cases hb : n = [] ∨ (n.length = 2 ∧ n.getD 0 0 = 1)
  · simp only [hb, decide_true, Bool.and_true, and_true]
    exact hl
  · simp only [hb, decide_false, Bool.and_false, and_false, if_false]
    rw [List.find?_eq_none.2 (fun _ _ => by simp)]
    rfl
theorem tilde_bare : ∀ p ∈ bareL, p.2.getLastD 0 = 126 → tildeK (cntV p.2.dropLast) = some (p.1.kind, p.1.n) ∧ p.1.r = 0 ∧ p.1.held = 0 ∧ Lib.itoa (cntV p.2.dropLast) ++ [126] = p.2 := by decide +kernel
theorem find_tilde (n : List Int) (h1 : 1 ≤ n.length) (h2 : n.length ≤ 2) (h0 : 0 ≤ n.getD 0 0) (h9 : n.getD 0 0 ≤ 9223372036854775807) : (bareL.find? fun p => mtK 126 n p.2).map Prod.fst = (tildeK (n.getD 0 0)).map fun p => ⟨p.1, 0, p.2, 0⟩ := by
  have hm : ∀ p ∈ bareL, mtK 126 n p.2 = true → tildeK (n.getD 0 0) = some (p.1.kind, p.1.n) ∧ p.1.r = 0 ∧ p.1.held = 0 := fun p hp h => by
    unfold mtK at h
    rw [if_neg (by simp)] at h
    simp only [Bool.and_eq_true, decide_eq_true_eq] at h
    obtain ⟨t1, t2, t3, t4⟩ := tilde_bare p hp h.1
    have e : cntV p.2.dropLast = n.getD 0 0 := by
      rw [← h.2.2, List.dropLast_concat]
      unfold cntV
      rw [atoi_itoa _ h0 h9]
    rw [e] at t1
    exact ⟨t1, t2, t3⟩
  cases hf : bareL.find? fun p => mtK 126 n p.2 with
  | some p =>
    obtain ⟨t1, t2, t3⟩ := hm p (List.mem_of_find?_eq_some hf) (by have := List.find?_some hf; exact this)
    rw [t1]
    obtain ⟨⟨k, r, m, hd⟩, t⟩ := p
    dsimp only at t2 t3
    subst t2 t3
    rfl
  | none =>
    cases ht : tildeK (n.getD 0 0) with
    | none => rfl
    | some q =>
      exfalso
      have key : ∀ v : Int, tildeK v ≠ none → ∃ p ∈ bareL, p.2 = Lib.itoa v ++ [126] ∧ p.2.getLastD 0 = 126 := fun v hv => by
        have step : ∀ v ∈ ([5, 6, 3, 11, 12, 13, 14, 15, 17, 18, 19, 20, 21, 23, 24] : List Int), ∃ p ∈ bareL, p.2 = Lib.itoa v ++ [126] ∧ p.2.getLastD 0 = 126 := by decide +kernel
        by_cases h : v ∈ ([5, 6, 3, 11, 12, 13, 14, 15, 17, 18, 19, 20, 21, 23, 24] : List Int)
        · exact step v h
        · exfalso
          apply hv
          simp only [List.mem_cons, List.not_mem_nil, or_false, not_or] at h
          unfold tildeK
          simp [h]
      obtain ⟨p, hp, e1, e2⟩ := key _ (by rw [ht]; simp)
      have hno := List.find?_eq_none.1 hf p hp
      apply hno
      unfold mtK
      rw [if_neg (by simp)]
      simp [e2, h1, h2, e1]
theorem parse_ge : ∀ (l : List UInt8) (acc u : Nat), Lib.parseUint10 acc l = .ok u → acc ≤ u ∧ (1 ≤ acc → l ≠ [] → 10 ≤ u)
  | [], acc, u, h => by
    simp only [Lib.parseUint10] at h
    injection h with h
    exact ⟨by omega, fun _ h => absurd rfl h⟩
  | c :: r, acc, u, h => by
    simp only [Lib.parseUint10] at h
    split at h
    · split at h
      · cases h
      · split at h
        · cases h
        · obtain ⟨h1, h2⟩ := parse_ge r _ u h
          exact ⟨by omega, fun ha _ => by omega⟩
    · cases h
theorem parse_one : ∀ (l : List UInt8) (u : Nat), Lib.parseUint10 0 l = .ok u → (u = 1 ↔ Lib.trimLeftB l 48 = [49])
  | [], u, h => by
    simp only [Lib.parseUint10] at h
    injection h with h
    subst h
    decide
  | c :: r, u, h => by
    simp only [Lib.parseUint10] at h
    split at h
    · rename_i hd
      split at h
      · cases h
      · split at h
        · cases h
        · by_cases hc : c = 48
          · subst hc
            have ih := parse_one r u h
            rw [ih]
            rfl
          · have hcn : c.toNat ≠ 48 := fun e => hc (UInt8.toNat_inj.1 e)
            have e : Lib.trimLeftB (c :: r) 48 = c :: r := by
              unfold Lib.trimLeftB
              rw [List.dropWhile_cons_of_neg (by simpa using hc)]
            rw [e]
            obtain ⟨h1, h2⟩ := parse_ge r _ u h
            rcases r with _ | ⟨d, r⟩
            · simp only [Lib.parseUint10] at h
              injection h with h
              constructor
              · intro hu
                have : c.toNat = (49 : UInt8).toNat := by show c.toNat = 49; omega
                rw [UInt8.toNat_inj.1 this]
              · intro hu
                obtain rfl := (List.cons.inj hu).1
                rw [← h]
                rfl
            · have h10 := h2 (by omega) (by simp)
              constructor
              · intro hu; omega
              · intro hu; cases (List.cons.inj hu).2
    · cases h
theorem trim_one {w : List UInt8} (h : ∀ c ∈ w, c.toNat ≠ 45 ∧ c.toNat ≠ 43) (hk : okN w = true) : Lib.trimLeftB w 48 = [49] ↔ cntV w = 1 := by
  unfold okN at hk
  unfold cntV
  cases w with
  | nil => cases hk
  | cons c r =>
    obtain ⟨h45, h43⟩ := h c (by simp)
    rw [Lib.atoiAll_plain c r h43 h45, Lib.parseMag, if_neg (by simp)] at hk ⊢
    cases hp : Lib.parseUint10 0 (c :: r) with
    | «syntax» => rw [hp] at hk; cases hk
    | range => rw [hp] at hk; cases hk
    | ok u =>
      rw [← parse_one _ u hp]
      rw [hp] at hk
      simp only [Lib.signless] at hk ⊢
      by_cases hb : 9223372036854775808 ≤ u
      · rw [if_pos hb] at hk
        cases hk
      · rw [if_neg hb]
        show u = 1 ↔ (u : Int) = 1
        omega
end Go.Eng.YtimpfhokacfobaaDoor
end

/- Keys: the reference's keyOf tells what the program tells (plain). -/
section
namespace Go.Eng.YtimpfhokacfobaaDoor
open Go Go.Eng Go.Proofs
set_option linter.unusedSimpArgs false
set_option maxRecDepth 100000
set_option linter.unusedVariables false
theorem splt_in (c : UInt8) : ∀ (s w : List UInt8), w ∈ splt c s → ∀ x ∈ w, x ∈ s ∧ x ≠ c
  | [], w, hw, x, hx => by
    rw [splt, List.mem_singleton] at hw
    subst hw
    cases hx
  | b :: r, w, hw, x, hx => by
    have ih := splt_in c r
    rw [splt] at hw
    have hne := splt_ne c r
    split at hw
    · rcases List.mem_cons.1 hw with rfl | hw
      · cases hx
      · have := ih w hw x hx
        exact ⟨List.mem_cons_of_mem _ this.1, this.2⟩
    · rename_i hb
      obtain ⟨y, ys, e⟩ := List.exists_cons_of_ne_nil hne
      rw [e] at hw ih
      simp only [List.headD_cons, List.head?_cons, Option.getD_some, List.tail_cons] at hw
      rcases List.mem_cons.1 hw with rfl | hw
      · rcases List.mem_cons.1 hx with rfl | hx
        · exact ⟨by simp, hb⟩
        · have := ih y (by simp) x hx
          exact ⟨List.mem_cons_of_mem _ this.1, this.2⟩
      · have := ih w (by simp [hw]) x hx
        exact ⟨List.mem_cons_of_mem _ this.1, this.2⟩
theorem dg_words {s : List UInt8} (h : ∀ c ∈ s, isDg c = true) : ∀ w ∈ splt 59 s, ∀ x ∈ w, x.toNat ≠ 45 ∧ x.toNat ≠ 43 := by
  intro w hw x hx
  obtain ⟨h1, h2⟩ := splt_in 59 s w hw x hx
  have h3 := h x h1
  unfold isDg at h3
  simp only [Bool.or_eq_true, Bool.and_eq_true, decide_eq_true_eq] at h3
  omega
def selK (hd : Int) : Option Key → Key × Bool
  | some q => ({ q with held := hd }, true)
  | none => (keyZ, false)
theorem sel_eq (hd : Int) (o : Option (Key × List UInt8)) : (match o with
      | some p => ({ p.1 with held := hd }, true)
      | none => (keyZ, false)) = selK hd (o.map Prod.fst) := by
  cases o <;> rfl
/-- What keyOf gives, by what the program asks. -/
theorem keyOf_arrow (s : List UInt8) (n : List Int) (hn : numsOf s = some n) (last : UInt8) (h90 : last ≠ 90) (h126 : last ≠ 126) (hh : ¬ (n.length = 2 ∧ ¬ (0 ≤ heldN n ∧ heldN n ≤ 7))) :
    keyOfR s last = if arrowK last.toNat ≠ 0 ∧ (n = [] ∨ (n.length = 2 ∧ n.getD 0 0 = 1)) then (⟨arrowK last.toNat, 0, 0, heldN n⟩, true) else (keyZ, false) := by
  unfold keyOfR
  rw [hn]
  dsimp only
  rw [if_neg h90, if_neg hh]
  refine (sel_eq _ _).trans ?_
  rw [find_arrow last h126 n]
  split <;> rfl
theorem keyOf_tilde (s : List UInt8) (n : List Int) (hn : numsOf s = some n) (h1 : 1 ≤ n.length) (h2 : n.length ≤ 2) (h0 : 0 ≤ n.getD 0 0) (h9 : n.getD 0 0 ≤ 9223372036854775807) (hh : ¬ (n.length = 2 ∧ ¬ (0 ≤ heldN n ∧ heldN n ≤ 7))) :
    keyOfR s 126 = selK (heldN n) ((tildeK (n.getD 0 0)).map fun p => ⟨p.1, 0, p.2, 0⟩) := by
  unfold keyOfR
  rw [hn]
  dsimp only
  rw [if_neg (by decide), if_neg hh]
  refine (sel_eq _ _).trans ?_
  rw [find_tilde n h1 h2 h0 h9]
theorem keyOf_no (s : List UInt8) (hn : numsOf s = none) (last : UInt8) : keyOfR s last = (keyZ, false) := by
  unfold keyOfR
  rw [hn]
theorem keyOf_far (s : List UInt8) (n : List Int) (hn : numsOf s = some n) (hh : n.length = 2 ∧ ¬ (0 ≤ heldN n ∧ heldN n ≤ 7)) (last : UInt8) : (keyOfR s last).2 = false := by
  unfold keyOfR
  rw [hn]
  dsimp only
  by_cases h90 : last = 90
  · rw [if_pos h90]
    exact decide_eq_false (by rintro rfl; simp at hh)
  · rw [if_neg h90, if_pos hh]
theorem keyOf_many (s : List UInt8) (n : List Int) (hn : numsOf s = some n) (h3 : 3 ≤ n.length) (last : UInt8) : (keyOfR s last).2 = false := by
  have hne : n ≠ [] := by rintro rfl; simp at h3
  have hno : ∀ p ∈ bareL, mtK last n p.2 = false := fun p _ => by
    unfold mtK
    by_cases h : last = 126
    · rw [if_neg (by simp [h])]
      have : ¬ n.length ≤ 2 := by omega
      simp [this]
    · rw [if_pos h]
      have : ¬ n.length = 2 := by omega
      simp [this, hne]
  unfold keyOfR
  rw [hn]
  dsimp only
  by_cases h90 : last = 90
  · rw [if_pos h90]
    exact decide_eq_false hne
  · rw [if_neg h90, if_neg (fun h => by omega)]
    have hf : (bareL.find? fun p => mtK last n p.2) = none := List.find?_eq_none.2 fun p hp => by rw [hno p hp]; decide
    rw [hf]
theorem keyOf_none (last : UInt8) : keyOfR [] last = toldK [] last := by
  have hn : numsOf [] = some [] := by unfold numsOf; rw [if_pos rfl]
  have ht : toldK [] last = toldT [] [] false last 0 := rfl
  rw [ht]
  unfold toldT
  by_cases h90 : last = 90
  · subst h90
    rfl
  · have h90' : ¬ (last.toNat = 90 ∧ ([] : List UInt8) = []) := fun h => h90 (UInt8.toNat_inj.1 h.1)
    rw [if_neg h90']
    by_cases h126 : last = 126
    · subst h126
      have hf : (bareL.find? fun p => mtK 126 [] p.2) = none := List.find?_eq_none.2 fun p _ => by simp [mtK]
      unfold keyOfR
      rw [hn]
      dsimp only
      rw [if_neg h90, if_neg (by simp), hf, if_neg (by simp [arrowK]), if_neg (by simp), if_pos (by decide)]
    · rw [keyOf_arrow [] [] hn last h90 h126 (by simp)]
      by_cases ha : arrowK last.toNat ≠ 0
      · rw [if_pos ⟨ha, .inl rfl⟩, if_pos ⟨ha, .inl rfl⟩]
        rfl
      · rw [if_neg fun h => ha h.1, if_neg fun h => ha h.1, if_pos (show last.toNat ≠ 126 from fun h => h126 (UInt8.toNat_inj.1 h))]
end Go.Eng.YtimpfhokacfobaaDoor
end

/- Keys: the reference's keyOf tells what the program tells (plain). -/
section
namespace Go.Eng.YtimpfhokacfobaaDoor
open Go Go.Eng Go.Proofs
set_option linter.unusedSimpArgs false
set_option maxRecDepth 100000
set_option linter.unusedVariables false
theorem parse_trim : ∀ l : List UInt8, Lib.trimLeftB l 48 = [49] → Lib.parseUint10 0 l = .ok 1
  | [], h => by cases h
  | c :: r, h => by
    by_cases hc : c = 48
    · subst hc
      exact parse_trim r h
    · have e : Lib.trimLeftB (c :: r) 48 = c :: r := by
        unfold Lib.trimLeftB
        rw [List.dropWhile_cons_of_neg (by simpa using hc)]
      rw [e] at h
      rw [h]
      rfl
theorem ok_trim {w : List UInt8} (h : ∀ c ∈ w, c.toNat ≠ 45 ∧ c.toNat ≠ 43) (ht : Lib.trimLeftB w 48 = [49]) : okN w = true := by
  unfold okN
  cases w with
  | nil => cases ht
  | cons c r =>
    obtain ⟨h45, h43⟩ := h c (by simp)
    rw [Lib.atoiAll_plain c r h43 h45, Lib.parseMag, if_neg (by simp), parse_trim _ ht]
    rfl
theorem told_none {s w0 : List UInt8} {two : Bool} {last : UInt8} {held : Int} (hs : s ≠ []) : toldT s w0 two last held =
    if arrowK last.toNat ≠ 0 ∧ (two = true ∧ Lib.trimLeftB w0 48 = [49]) then (⟨arrowK last.toNat, 0, 0, held⟩, true)
    else if last.toNat ≠ 126 then (keyZ, false) else if okN w0 = false then (keyZ, false) else selK held ((tildeK (cntV w0)).map fun p => ⟨p.1, 0, p.2, 0⟩) := by
  unfold toldT
  rw [if_neg (fun h => hs h.2)]
  have e : (arrowK last.toNat ≠ 0 ∧ (s = [] ∨ (two = true ∧ Lib.trimLeftB w0 48 = [49]))) = (arrowK last.toNat ≠ 0 ∧ (two = true ∧ Lib.trimLeftB w0 48 = [49])) := by simp [hs]
  simp only [e]
  cases tildeK (cntV w0) <;> rfl
end Go.Eng.YtimpfhokacfobaaDoor
end

/- Keys: the reference's keyOf tells what the program tells (plain). -/
section
namespace Go.Eng.YtimpfhokacfobaaDoor
open Go Go.Eng Go.Proofs
set_option linter.unusedSimpArgs false
set_option maxRecDepth 100000
set_option linter.unusedVariables false
def agreeK (a b : Key × Bool) : Prop := a.2 = b.2 ∧ (b.2 = true → a.1 = b.1)
theorem agree_no {a b : Key × Bool} (ha : a.2 = false) (hb : b.2 = false) : agreeK a b := ⟨by rw [ha, hb], fun h => by rw [hb] at h; cases h⟩
theorem agree_eq {a b : Key × Bool} (h : a = b) : agreeK a b := by subst h; exact ⟨rfl, fun _ => rfl⟩
theorem far90 (s : List UInt8) (n : List Int) (hn : numsOf s = some n) (hne : n ≠ []) : (keyOfR s 90).2 = false := by
  unfold keyOfR
  rw [hn]
  dsimp only
  rw [if_pos rfl]
  exact decide_eq_false hne
theorem keyOf_told (s : List UInt8) (hd : ∀ c ∈ s, isDg c = true) (last : UInt8) : agreeK (keyOfR s last) (toldK s last) := by
  by_cases hs : s = []
  · subst hs
    exact agree_eq (keyOf_none last)
  have hw := dg_words hd
  have hne := splt_ne 59 s
  have hnum : numsOf s = if (splt 59 s).all okN = true then some ((splt 59 s).map cntV) else none := by unfold numsOf; rw [if_neg hs]
  have hci : ∀ w, cntV w ≤ 9223372036854775807 := fun w => by
    have := cntV_i64 w
    unfold i64ok at this
    have := this.2
    omega
  have n126 : (126 : UInt8).toNat = 126 := rfl
  have a126 : arrowK (126 : UInt8).toNat = 0 := rfl
  unfold toldK
  generalize splt 59 s = ws at *
  rcases ws with _ | ⟨w0, _ | ⟨w1, _ | ⟨w2, ws⟩⟩⟩
  · exact absurd rfl hne
  · dsimp only
    rw [told_none hs, if_neg (by simp)]
    by_cases hk : okN w0 = true
    · rw [if_pos (by simp [hk])] at hnum
      by_cases h126 : last = 126
      · subst h126
        rw [if_neg (by simp), if_neg (by simp [hk]), keyOf_tilde s _ hnum (by simp) (by simp) (cnt_pos fun c hc => (hw w0 (by simp) c hc).1) (hci w0) (by simp)]
        exact agree_eq rfl
      · rw [if_pos (show last.toNat ≠ 126 from fun h => h126 (UInt8.toNat_inj.1 h))]
        by_cases h90 : last = 90
        · subst h90
          exact agree_no (far90 s _ hnum (by simp)) rfl
        · rw [keyOf_arrow s _ hnum last h90 h126 (by simp), if_neg (by simp)]
          exact agree_eq rfl
    · rw [if_neg (by simp [hk])] at hnum
      rw [keyOf_no s hnum last]
      refine agree_no rfl ?_
      split
      · rfl
      · rw [if_pos (by simpa using hk)]
  · dsimp only
    by_cases h1 : okN w1 = true ∧ 1 ≤ cntV w1 ∧ cntV w1 ≤ 8
    · rw [if_pos h1, told_none hs]
      by_cases hk : okN w0 = true
      · rw [if_pos (by simp [hk, h1.1])] at hnum
        have hH : ¬ (([w0, w1].map cntV).length = 2 ∧ ¬ (0 ≤ heldN ([w0, w1].map cntV) ∧ heldN ([w0, w1].map cntV) ≤ 7)) := fun h => h.2 (by
          show 0 ≤ cntV w1 - 1 ∧ cntV w1 - 1 ≤ 7
          omega)
        have ht := trim_one (hw w0 (by simp)) hk
        by_cases h126 : last = 126
        · subst h126
          rw [if_neg (fun h => h.1 rfl), if_neg (by simp), if_neg (by simp [hk]), keyOf_tilde s _ hnum (by simp) (by simp) (cnt_pos fun c hc => (hw w0 (by simp) c hc).1) (hci w0) hH]
          exact agree_eq rfl
        · by_cases h90 : last = 90
          · subst h90
            refine agree_no (far90 s _ hnum (by simp)) ?_
            rw [if_neg (fun h => h.1 rfl), if_pos (by decide)]
          · rw [keyOf_arrow s _ hnum last h90 h126 hH]
            by_cases ha : arrowK last.toNat ≠ 0 ∧ cntV w0 = 1
            · rw [if_pos ⟨ha.1, .inr ⟨rfl, ha.2⟩⟩, if_pos ⟨ha.1, rfl, ht.2 ha.2⟩]
              exact agree_eq rfl
            · rw [if_neg (fun h => ha ⟨h.1, h.2.elim (fun h => by cases h) (fun h => h.2)⟩), if_neg (fun h => ha ⟨h.1, ht.1 h.2.2⟩), if_pos (show last.toNat ≠ 126 from fun h => h126 (UInt8.toNat_inj.1 h))]
              exact agree_eq rfl
      · rw [if_neg (by simp [hk])] at hnum
        rw [keyOf_no s hnum last]
        refine agree_no rfl ?_
        rw [if_neg (fun h => hk (ok_trim (hw w0 (by simp)) h.2.2))]
        split
        · rfl
        · rw [if_pos (by simpa using hk)]
    · rw [if_neg h1]
      by_cases hk : okN w0 = true ∧ okN w1 = true
      · rw [if_pos (by simp [hk.1, hk.2])] at hnum
        refine agree_no (keyOf_far s _ hnum ⟨rfl, fun h => h1 ⟨hk.2, ?_⟩⟩ last) rfl
        have h2 : 0 ≤ cntV w1 - 1 ∧ cntV w1 - 1 ≤ 7 := h
        omega
      · rw [if_neg (by simpa using hk)] at hnum
        exact agree_no (by rw [keyOf_no s hnum last]) rfl
  · refine agree_no ?_ rfl
    by_cases ha : ((w0 :: w1 :: w2 :: ws).all okN) = true
    · rw [if_pos ha] at hnum
      exact keyOf_many s _ hnum (by simp) last
    · rw [if_neg ha] at hnum
      rw [keyOf_no s hnum last]
end Go.Eng.YtimpfhokacfobaaDoor
end

/- Keys: what the reference's firstKey asks (plain). -/
section
namespace Go.Eng.YtimpfhokacfobaaDoor
open Go Go.Eng Go.Proofs
set_option linter.unusedSimpArgs false
set_option maxRecDepth 100000
set_option linter.unusedVariables false
def digS : List UInt8 := [48, 49, 50, 51, 52, 53, 54, 55, 56, 57, 59]
theorem dig_index0 : ∀ c : Fin 256, decide (0 ≤ Lib.indexByte digS (UInt8.ofNat c.val)) = isDg (UInt8.ofNat c.val) := by decide +kernel
theorem dig_index (c : UInt8) : decide (0 ≤ Lib.indexByte digS c) = isDg c := by
  have h := dig_index0 ⟨c.toNat, c.toNat_lt⟩
  dsimp only at h
  rw [UInt8.ofNat_toNat] at h
  exact h
theorem first0_zero {b : List UInt8} (hb : b ≠ []) {last : Bool} (h : (first0 b last).2 = 0) : (first0 b last).1 = keyZ := by
  have h2 := dec_pos b hb
  unfold first0 at h ⊢
  split
  · rename_i h1
    rw [if_pos h1] at h
    cases h
  · rename_i h1
    rw [if_neg h1] at h
    split
    · rfl
    · rename_i h3
      rw [if_neg h3] at h
      dsimp only at h
      omega
theorem letter_up {kind : Int} : letterK kind ≠ 0 ↔ 6 ≤ kind ∧ kind ≤ 11 := by
  unfold letterK
  constructor
  · intro h
    repeat' split at h
    all_goals first | omega | exact absurd rfl h
  · intro h
    repeat' split
    all_goals first | omega | decide
theorem run_dg {b : List UInt8} : ∀ c ∈ (b.take (runK b)).drop 2, isDg c = true := by
  intro c hc
  unfold runK at hc
  split at hc
  · obtain ⟨n, hn⟩ : ∃ n, n = (((b.drop 2).take 10).takeWhile isDg).length := ⟨_, rfl⟩
    rw [← hn, List.drop_take, show 2 + n - 2 = n by omega] at hc
    have h1 : ((b.drop 2).take 10).takeWhile isDg = ((b.drop 2).take 10).take n := by
      have h := List.takeWhile_prefix (p := isDg) (l := (b.drop 2).take 10)
      rw [hn]
      exact (List.prefix_iff_eq_take.1 h)
    have hn10 : n ≤ 10 := by
      have := (List.takeWhile_prefix (p := isDg) (l := (b.drop 2).take 10)).length_le
      rw [List.length_take] at this
      omega
    rw [List.take_take, Nat.min_eq_left hn10] at h1
    rw [← h1] at hc
    exact List.all_eq_true.1 List.all_takeWhile c hc
  · rw [List.drop_take] at hc
    simp at hc
theorem seqK_ref (b : List UInt8) (last : Bool) : seqK b last =
    if runK b = b.length ∧ last = false then (keyZ, 0)
    else if runK b < b.length ∧ (keyOfR ((b.take (runK b)).drop 2) (b.getD (runK b) 0)).2 = true ∧ (b.getD 1 0 = 91 ∨ (6 ≤ (keyOfR ((b.take (runK b)).drop 2) (b.getD (runK b) 0)).1.kind ∧ (keyOfR ((b.take (runK b)).drop 2) (b.getD (runK b) 0)).1.kind ≤ 11)) then
      ((keyOfR ((b.take (runK b)).drop 2) (b.getD (runK b) 0)).1, runK b + 1)
    else (keyEsc, 1) := by
  have ha := keyOf_told _ (run_dg (b := b)) (b.getD (runK b) 0)
  unfold seqK
  generalize toldK ((b.take (runK b)).drop 2) (b.getD (runK b) 0) = T at *
  generalize keyOfR ((b.take (runK b)).drop 2) (b.getD (runK b) 0) = R at *
  obtain ⟨t, x⟩ := T
  obtain ⟨r, y⟩ := R
  obtain ⟨h1, h2⟩ := ha
  dsimp only at h1 h2 ⊢
  subst h1
  cases y with
  | false => simp
  | true =>
    obtain rfl := h2 rfl
    simp only [letter_up]
end Go.Eng.YtimpfhokacfobaaDoor
end
