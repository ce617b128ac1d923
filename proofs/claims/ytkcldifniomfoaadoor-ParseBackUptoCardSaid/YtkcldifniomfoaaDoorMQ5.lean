/- Texts put together: Prs14, ParEv. -/
import Derived.Test.YtkcldifniomfoaaDoorMQ4
/- The reader of escape sequences: that it reads (readIn); the law ParseAlways (b_ x_ q_ e_). -/
section
namespace Go.Eng
open Go
variable {P : Program} {W : World}
/-- A contract, at a slice that is nil. -/
theorem Pure.nil {f : FuncId} {args args' : List PV} {r : PV} (h : Pure P W f args' r) (hl : args.length = args'.length)
    (ha : ∀ i, i < args.length → Frz [] (args.getD i .dead) (args'.getD i .dead)) : Pure P W f args r := by
  refine ⟨⟨h.calls.body, fun K w vs hlen hr hm hp => ?_⟩⟩
  refine h.calls.run K w vs (hl ▸ hlen) (fun i hi => ?_) hm hp
  refine (frz_sound hm (ha i (by omega)) _ (hr i (by omega))).mono (fun b o hk => ⟨?_, rfl⟩) (fun _ _ h => h)
  rcases hk with hk | ⟨sz, es, fz, hk, -⟩
  · exact hk
  · cases hk
end Go.Eng
namespace Go.Eng.YtkcldifniomfoaaDoor
open Go Go.Eng Go.Proofs
variable (W : World)
set_option linter.unusedSimpArgs false
set_option maxRecDepth 100000
set_option linter.unusedVariables false
set_option maxHeartbeats 8000000
def zeroSt : PV := .agg [.int .i64 0, .int .u8 0, .str [], .nils, .str [], .str [], .bool false]
theorem frz_zeroSt (σ : Mem) : Frz σ zeroSt (encSt st0) := by
  refine .agg _ _ rfl fun j hj => ?_
  match j, hj with
  | 0, _ => exact .refl _
  | 1, _ => exact .refl _
  | 2, _ => exact .refl _
  | 3, _ => exact .nils 1
  | 4, _ => exact .refl _
  | 5, _ => exact .refl _
  | 6, _ => exact .refl _
theorem feed_zero (hT : Tabs W) (b : List UInt8) : Pure Tryd.prog W 8 [zeroSt, .str b] (feedV (feedR st0 b)) :=
  (feed_all W hT st0 b (ok_fair st0_ok)).nil rfl fun i hi => by
    match i, hi with
    | 0, _ => exact frz_zeroSt _
    | 1, _ => exact .refl _
theorem sameState_zero (x : PSt) (hl : x.params.length ≤ 4611686018427387904) : Pure Tryd.prog W 10 [encSt x, zeroSt] (.bool (decide (x = st0))) :=
  (sameState_ok W x st0 hl).nil rfl fun i hi => by
    match i, hi with
    | 0, _ => exact .refl _
    | 1, _ => exact frz_zeroSt _
def printV (n : Int) : PV := .agg [.int .i64 1, .int .i32 n, .int .u8 0, .int .u8 0, .str [], .nils, .str []]
theorem frz_print (σ : Mem) (n : Int) : Frz σ (printV n) (encEv (printE n)) := by
  refine .agg _ _ rfl fun j hj => ?_
  match j, hj with
  | 0, _ => exact .refl _
  | 1, _ => exact .refl _
  | 2, _ => exact .refl _
  | 3, _ => exact .refl _
  | 4, _ => exact .refl _
  | 5, _ => exact .nils 1
  | 6, _ => exact .refl _
theorem same_print (x : PEv) (hl : x.params.length ≤ 4611686018427387904) (n : Int) : Pure Tryd.prog W 11 [encEv x, printV n] (.bool (decide (x = printE n))) :=
  (sameEvent_ok W x (printE n) hl).nil rfl fun i hi => by
    match i, hi with
    | 0, _ => exact .refl _
    | 1, _ => exact frz_print _ n
theorem feed_few : ∀ (b : List UInt8) {s : PSt}, s.ok → (feedL s b).2.length ≤ 4 * b.length
  | [], s, h => Nat.le_refl _
  | c :: b, s, h => by
    have h1 := step_few h c
    have h2 := feed_few b (stepL_ok h c)
    rw [feedL, List.length_append, List.length_cons]
    omega
def cmdH : PEv := ⟨4, 0, 72, 0, [], [2, 3], []⟩
theorem feed_in : feedR st0 [27, 91, 50, 59, 51, 72, 120, 27, 91] = ((stAt 3, [cmdH, printE 120]), 0) := by decide +kernel
theorem readIn_ok (hT : Tabs W) : Pure Tryd.prog W 9 [] (.bool true) := by
  have h1 := feed_zero W hT [27, 91, 50, 59, 51, 72, 120, 27, 91]
  rw [feed_in] at h1
  have h2 := sameEvent_ok W cmdH cmdH (by decide)
  have h3 := same_print W (printE 120) (by decide) 120
  rw [decide_eq_true rfl] at h2 h3
  simp only [zeroSt, feedV, encSt, stV, encInts, stAt, encEvs, List.map_cons, List.map_nil, encEv, evV, cmdH, printE, ev0, st0, printV] at h1 h2 h3
  refine Pure.of (acalls_of_vc (drawOk W) Tryd.func9 rfl (by decide) (by decide) rfl ?_)
  (refine g0_ ?_; repeat ((first | refine n1_ fun b_ => ?_ | refine n2_ fun b_ => ?_ | refine Nat1.mk fun q_ hq_ => ?_ | refine em_ fun x_ hx_ => ?_ | refine Elem1.mk fun e_ he_ => ?_); refine g0_ ?_))
  refine (h1).use ?_; (refine g0_ ?_; repeat ((first | refine n1_ fun b_ => ?_ | refine n2_ fun b_ => ?_ | refine Nat1.mk fun q_ hq_ => ?_ | refine em_ fun x_ hx_ => ?_ | refine Elem1.mk fun e_ he_ => ?_); refine g0_ ?_))
  (refine g0_ ?_; repeat ((first | refine n1_ fun b_ => ?_ | refine n2_ fun b_ => ?_ | refine Nat1.mk fun q_ hq_ => ?_ | refine em_ fun x_ hx_ => ?_ | refine Elem1.mk fun e_ he_ => ?_); refine g0_ ?_))
  refine .inl ?_
  (refine g0_ ?_; repeat ((first | refine n1_ fun b_ => ?_ | refine n2_ fun b_ => ?_ | refine Nat1.mk fun q_ hq_ => ?_ | refine em_ fun x_ hx_ => ?_ | refine Elem1.mk fun e_ he_ => ?_); refine g0_ ?_))
  refine (h2).use ?_; (refine g0_ ?_; repeat ((first | refine n1_ fun b_ => ?_ | refine n2_ fun b_ => ?_ | refine Nat1.mk fun q_ hq_ => ?_ | refine em_ fun x_ hx_ => ?_ | refine Elem1.mk fun e_ he_ => ?_); refine g0_ ?_))
  (refine g0_ ?_; repeat ((first | refine n1_ fun b_ => ?_ | refine n2_ fun b_ => ?_ | refine Nat1.mk fun q_ hq_ => ?_ | refine em_ fun x_ hx_ => ?_ | refine Elem1.mk fun e_ he_ => ?_); refine g0_ ?_))
  refine (h3).use ?_; (refine g0_ ?_; repeat ((first | refine n1_ fun b_ => ?_ | refine n2_ fun b_ => ?_ | refine Nat1.mk fun q_ hq_ => ?_ | refine em_ fun x_ hx_ => ?_ | refine Elem1.mk fun e_ he_ => ?_); refine g0_ ?_))
  (refine g0_ ?_; repeat ((first | refine n1_ fun b_ => ?_ | refine n2_ fun b_ => ?_ | refine Nat1.mk fun q_ hq_ => ?_ | refine em_ fun x_ hx_ => ?_ | refine Elem1.mk fun e_ he_ => ?_); refine g0_ ?_))
  exact .refl _
theorem parseAlways_ok (hT : Tabs W) (b : List UInt8) (_hb : b.length ≤ 140737488355328) : Pure Tryd.prog W 3 [.str b] (.bool true) := by
  have h1 := feed_zero W hT b
  have hr := readIn_ok W hT
  by_cases hb : 4000 < b.length
  · rw [show feedR st0 b = ((st0, []), 2) by rw [feedR, if_pos st0_ok, if_pos hb]] at h1
    simp only [zeroSt, feedV, encSt, stV, encInts, encEvs, List.map_nil] at h1
    refine Pure.of (acalls_of_vc (drawOk W) Tryd.func3 rfl (by decide) (by decide) rfl ?_)
    (refine g0_ ?_; repeat ((first | refine n1_ fun b_ => ?_ | refine n2_ fun b_ => ?_ | refine Nat1.mk fun q_ hq_ => ?_ | refine em_ fun x_ hx_ => ?_ | refine Elem1.mk fun e_ he_ => ?_); refine g0_ ?_))
    refine (h1).use ?_; (refine g0_ ?_; repeat ((first | refine n1_ fun b_ => ?_ | refine n2_ fun b_ => ?_ | refine Nat1.mk fun q_ hq_ => ?_ | refine em_ fun x_ hx_ => ?_ | refine Elem1.mk fun e_ he_ => ?_); refine g0_ ?_))
    (refine g0_ ?_; repeat ((first | refine n1_ fun b_ => ?_ | refine n2_ fun b_ => ?_ | refine Nat1.mk fun q_ hq_ => ?_ | refine em_ fun x_ hx_ => ?_ | refine Elem1.mk fun e_ he_ => ?_); refine g0_ ?_))
    refine (hr).use ?_; (refine g0_ ?_; repeat ((first | refine n1_ fun b_ => ?_ | refine n2_ fun b_ => ?_ | refine Nat1.mk fun q_ hq_ => ?_ | refine em_ fun x_ hx_ => ?_ | refine Elem1.mk fun e_ he_ => ?_); refine g0_ ?_))
    (refine g0_ ?_; repeat ((first | refine n1_ fun b_ => ?_ | refine n2_ fun b_ => ?_ | refine Nat1.mk fun q_ hq_ => ?_ | refine em_ fun x_ hx_ => ?_ | refine Elem1.mk fun e_ he_ => ?_); refine g0_ ?_))
    refine (hr).use ?_; (refine g0_ ?_; repeat ((first | refine n1_ fun b_ => ?_ | refine n2_ fun b_ => ?_ | refine Nat1.mk fun q_ hq_ => ?_ | refine em_ fun x_ hx_ => ?_ | refine Elem1.mk fun e_ he_ => ?_); refine g0_ ?_))
    (refine g0_ ?_; repeat ((first | refine n1_ fun b_ => ?_ | refine n2_ fun b_ => ?_ | refine Nat1.mk fun q_ hq_ => ?_ | refine em_ fun x_ hx_ => ?_ | refine Elem1.mk fun e_ he_ => ?_); refine g0_ ?_))
    exact .refl _
  · rw [show feedR st0 b = (feedL st0 b, 0) by rw [feedR, if_pos st0_ok, if_neg hb]] at h1
    have ho := feedL_ok b st0_ok
    generalize feedL st0 b = q at *
    obtain ⟨s, es⟩ := q
    dsimp only at ho
    have h2 := feed_all W hT s [24, 24, 97] (ok_fair ho)
    have hfew := feed_few [24, 24, 97] ho
    obtain ⟨ha, es', he⟩ := feed_always ho
    rw [show feedR s [24, 24, 97] = ((st0, es' ++ [printE 97]), 0) by rw [feedR, if_pos ho, if_neg (by decide), ← ha, ← he]] at h2
    have h3 := sameState_zero W st0 (by decide)
    have h4 := same_print W (printE 97) (by decide) 97
    rw [decide_eq_true rfl] at h3 h4
    have hlast : (es' ++ [printE 97])[es'.length]? = some (printE 97) := by simp
    have hlen : (es' ++ [printE 97]).length = es'.length + 1 := by simp
    rw [he, hlen] at hfew
    simp only [List.length_cons, List.length_nil] at hfew
    generalize es' ++ [printE 97] = l at *
    simp only [zeroSt, feedV, encSt, stV, encInts, encEvs, printV] at h1 h2 h3 h4
    refine Pure.of (acalls_of_vc (drawOk W) Tryd.func3 rfl (by decide) (by decide) rfl ?_)
    (refine g0_ ?_; repeat ((first | refine n1_ fun b_ => ?_ | refine n2_ fun b_ => ?_ | refine Nat1.mk fun q_ hq_ => ?_ | refine em_ fun x_ hx_ => ?_ | refine Elem1.mk fun e_ he_ => ?_); refine g0_ ?_))
    refine (h1).use ?_; (refine g0_ ?_; repeat ((first | refine n1_ fun b_ => ?_ | refine n2_ fun b_ => ?_ | refine Nat1.mk fun q_ hq_ => ?_ | refine em_ fun x_ hx_ => ?_ | refine Elem1.mk fun e_ he_ => ?_); refine g0_ ?_))
    (refine g0_ ?_; repeat ((first | refine n1_ fun b_ => ?_ | refine n2_ fun b_ => ?_ | refine Nat1.mk fun q_ hq_ => ?_ | refine em_ fun x_ hx_ => ?_ | refine Elem1.mk fun e_ he_ => ?_); refine g0_ ?_))
    refine (hr).use ?_; (refine g0_ ?_; repeat ((first | refine n1_ fun b_ => ?_ | refine n2_ fun b_ => ?_ | refine Nat1.mk fun q_ hq_ => ?_ | refine em_ fun x_ hx_ => ?_ | refine Elem1.mk fun e_ he_ => ?_); refine g0_ ?_))
    (refine g0_ ?_; repeat ((first | refine n1_ fun b_ => ?_ | refine n2_ fun b_ => ?_ | refine Nat1.mk fun q_ hq_ => ?_ | refine em_ fun x_ hx_ => ?_ | refine Elem1.mk fun e_ he_ => ?_); refine g0_ ?_))
    refine (h2).use ?_; (refine g0_ ?_; repeat ((first | refine n1_ fun b_ => ?_ | refine n2_ fun b_ => ?_ | refine Nat1.mk fun q_ hq_ => ?_ | refine em_ fun x_ hx_ => ?_ | refine Elem1.mk fun e_ he_ => ?_); refine g0_ ?_))
    (refine g0_ ?_; repeat ((first | refine n1_ fun b_ => ?_ | refine n2_ fun b_ => ?_ | refine Nat1.mk fun q_ hq_ => ?_ | refine em_ fun x_ hx_ => ?_ | refine Elem1.mk fun e_ he_ => ?_); refine g0_ ?_))
    refine (h3).use ?_; (refine g0_ ?_; repeat ((first | refine n1_ fun b_ => ?_ | refine n2_ fun b_ => ?_ | refine Nat1.mk fun q_ hq_ => ?_ | refine em_ fun x_ hx_ => ?_ | refine Elem1.mk fun e_ he_ => ?_); refine g0_ ?_))
    (refine g0_ ?_; repeat ((first | refine n1_ fun b_ => ?_ | refine n2_ fun b_ => ?_ | refine Nat1.mk fun q_ hq_ => ?_ | refine em_ fun x_ hx_ => ?_ | refine Elem1.mk fun e_ he_ => ?_); refine g0_ ?_))
    refine brec ?_; intro c_ h5; (try rw [h5]); cases c_ <;> replace h5 := nm_ h5
    · exfalso
      rw [List.length_map, hlen] at h5
      omega
    · have hml : (l.map encEv).length = es'.length + 1 := by rw [List.length_map, hlen]
      (refine g0_ ?_; repeat ((first | refine n1_ fun b_ => ?_ | refine n2_ fun b_ => ?_ | refine Nat1.mk fun q_ hq_ => ?_ | refine em_ fun x_ hx_ => ?_ | refine Elem1.mk fun e_ he_ => ?_); refine g0_ ?_))
      obtain rfl : q_ = es'.length := by omega
      rw [hlast] at hx_
      obtain rfl := Option.some.inj hx_
      refine (h4).use ?_; (refine g0_ ?_; repeat ((first | refine n1_ fun b_ => ?_ | refine n2_ fun b_ => ?_ | refine Nat1.mk fun q_ hq_ => ?_ | refine em_ fun x_ hx_ => ?_ | refine Elem1.mk fun e_ he_ => ?_); refine g0_ ?_))
      (refine g0_ ?_; repeat ((first | refine n1_ fun b_ => ?_ | refine n2_ fun b_ => ?_ | refine Nat1.mk fun q_ hq_ => ?_ | refine em_ fun x_ hx_ => ?_ | refine Elem1.mk fun e_ he_ => ?_); refine g0_ ?_))
      exact .refl _
end Go.Eng.YtkcldifniomfoaaDoor
end

/- The reader of escape sequences: how many numbers an event has. -/
section
namespace Go.Eng.YtkcldifniomfoaaDoor
open Go Go.Eng Go.Proofs
set_option linter.unusedSimpArgs false
set_option linter.unusedVariables false
theorem evs_cells (l : List PEv) : (l.map encEv).all cellsB = true := by
  induction l with
  | nil => rfl
  | cons e es ih => rw [List.map_cons, List.all_cons, ih]; rfl
theorem ctl_par (s : PSt) (b : UInt8) : ∀ e ∈ (ctlL s b).2, e.params.length ≤ 16 := by
  unfold ctlL; repeat' split
  all_goals
    intro e he
    first
      | (cases he; done)
      | (obtain rfl := List.mem_singleton.1 he; exact Nat.zero_le _)
theorem esc_par (s : PSt) (b : UInt8) : ∀ e ∈ (escL s b).2, e.params.length ≤ 16 := by
  have := ctl_par s b
  unfold escL; repeat' split
  all_goals first
    | exact this
    | (intro e he; cases he; done)
    | (intro e he; obtain rfl := List.mem_singleton.1 he; exact Nat.zero_le _)
theorem step_par {s : PSt} (h : s.ok) (b : UInt8) : ∀ e ∈ (stepL s b).2, e.params.length ≤ 16 := by
  have hp : s.params.length ≤ 16 := by
    rcases h with ⟨h0, hl, h2, h3, h4, h5, h6⟩ | ⟨h0, h1, h2, h3, h4, h5, h6⟩ | ⟨h0, h1, h2, h3, h4, h5, h6, h7⟩ | ⟨h0, h1, h2, h3, h4, h5, h6, h7⟩ | ⟨h0, h1, h2, h3, h4, h5, h6⟩
    · rw [h4]; exact Nat.zero_le _
    · rw [h4]; exact Nat.zero_le _
    · rw [h3]; exact Nat.zero_le _
    · exact h2
    · rw [h4]; exact Nat.zero_le _
  have hc := ctl_par s b
  have hc0 := ctl_par { s with left := [] } b
  have he0 := esc_par s b
  have he1 := esc_par (stAt 1) b
  have hea : ∀ n l, ∀ e ∈ (eatL n l).2, e.params.length ≤ 16 := fun n l e he => by rw [eat_ev n l e he]; exact Nat.zero_le _
  have hmp : ∀ l : List UInt8, ∀ e ∈ l.map (fun _ => printE 65533), e.params.length ≤ 16 := fun l e he => by
    obtain ⟨_, _, rfl⟩ := List.mem_map.1 he
    exact Nat.zero_le _
  have fin : ∀ x : PEv, x.params.length ≤ 16 → ∀ e ∈ [x], e.params.length ≤ 16 := fun x hx e he => by
    obtain rfl := List.mem_singleton.1 he; exact hx
  have fin0 : ∀ e ∈ ([] : List PEv), e.params.length ≤ 16 := fun e he => by cases he
  unfold stepL
  split
  · unfold groundL
    split
    · intro e he
      rcases List.mem_append.1 he with he | he
      · exact hmp _ e he
      · exact hc0 e he
    · exact hea _ _
  split
  · exact he0
  split
  · unfold midL; repeat' split
    all_goals first | exact hc | exact fin0 | exact fin _ (Nat.zero_le _)
  split
  · unfold cmdL; repeat' split
    all_goals first | exact hc | exact fin0 | exact fin _ hp
  split
  · unfold sysL; repeat' split
    all_goals first | exact he1 | exact fin0 | exact fin _ (Nat.zero_le _)
  · unfold skipL; repeat' split
    all_goals first | exact hc | exact fin0 | exact fin _ (Nat.zero_le _)
theorem feed_par : ∀ (b : List UInt8) {s : PSt}, s.ok → ∀ e ∈ (feedL s b).2, e.params.length ≤ 16
  | [], s, h => fun e he => by cases he
  | c :: b, s, h => fun e he => by
    rw [feedL] at he
    rcases List.mem_append.1 he with he | he
    · exact step_par h c e he
    · exact feed_par b (stepL_ok h c) e he
end Go.Eng.YtkcldifniomfoaaDoor
end
