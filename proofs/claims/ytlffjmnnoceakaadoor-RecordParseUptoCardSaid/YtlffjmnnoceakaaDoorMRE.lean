/- Texts put together: Eng31, RecD, RecZ. -/
import Derived.Test.YtlffjmnnoceakaaDoorME3
import Derived.Test.YtlffjmnnoceakaaDoorMRB
import Derived.Test.YtlffjmnnoceakaaDoorME9
import Derived.Test.YtlffjmnnoceakaaDoorMRD
/- The engine, part 31: a text sought in a map of the call's own. -/
section
namespace Go.Eng
open Go
variable {P : Program}
/-- The entry of a text. -/
def getS (es : List (PV × PV)) (s : List UInt8) : Option PV :=
  match es with
  | [] => none
  | (.str m, v) :: r => if s = m then some v else getS r s
  | _ :: r => getS r s
def strKeys : List (PV × PV) → Bool
  | [] => true
  | (.str _, _) :: r => strKeys r
  | _ :: _ => false
theorem findNow_getS {K : Kn} {w : World} {s : List UInt8} : ∀ (es : List (PV × PV)) (ents : List MapEntry) (j : Nat), es.length = ents.length → (∀ i, i < es.length → VRel K w (es.getD i (.dead, .dead)).1 (ents.getD i default).key ∧ VRel K w (es.getD i (.dead, .dead)).2 (ents.getD i default).val) → strKeys es = true →
    (getS es s = none ∧ Instr.findNow .string (.string ⟨s.toArray⟩) ents j = some none) ∨ (∃ v i z, getS es s = some v ∧ Instr.findNow .string (.string ⟨s.toArray⟩) ents j = some (some (i, z)) ∧ VRel K w v z)
  | [], [], j, _, _, _ => .inl ⟨rfl, rfl⟩
  | [], _ :: _, _, hl, _, _ => by simp at hl
  | _ :: _, [], _, hl, _, _ => by simp at hl
  | (q, v) :: es, en :: ents, j, hl, hr, hn => by
    have h0 := hr 0 (by simp)
    simp only [List.getD_cons_zero] at h0
    have ih := findNow_getS (s := s) es ents (j + 1) (by simpa using hl) (fun i hi => by have := hr (i + 1) (by simpa using hi); simpa using this)
    cases q <;> simp only [strKeys] at hn <;> (try (cases hn; done))
    rename_i m
    obtain ⟨h0, hv⟩ := h0
    generalize hk : en.key = key at h0
    cases h0
    by_cases h4 : s = m
    · subst h4
      have h5 : ((⟨s.toArray⟩ : ByteArray) == ⟨s.toArray⟩) = true := by
        show (s.toArray == s.toArray) = true
        exact beq_self_eq_true _
      exact .inr ⟨v, j, en.val, by simp [getS], by simp [Instr.findNow, hk, Instr.sameNow, h5], hv⟩
    · have h5 : ((⟨s.toArray⟩ : ByteArray) == ⟨m.toArray⟩) = false := by
        show (s.toArray == m.toArray) = false
        exact beq_eq_false_iff_ne.2 fun e => h4 (by simpa using congrArg Array.toList e)
      rcases ih hn with ⟨g1, g2⟩ | ⟨v', i, z, g1, g2, g3⟩
      · exact .inl ⟨by simp [getS, h4, g1], by simp [Instr.findNow, hk, Instr.sameNow, h5, g2]⟩
      · exact .inr ⟨v', i, z, by simp [getS, h4, g1], by simp [Instr.findNow, hk, Instr.sameNow, h5, g2], g3⟩
/-- A text sought in a map of the call's own. -/
theorem look_str {t kt et : TypeId} {b : Nat} {s : List UInt8} {es : List (PV × PV)} {σ r : Mem} {i0 : TypeInfo} {z : Value} {q : PV} (hl : Look σ b (.mpc es) r) (ht : P.underlying t = some (.map kt et)) (hkt : P.underlying kt = some .string) (hi : P.info? et = some i0) (hz : i0.zero = some z)
    (hk : strKeys es = true) (hq : (getS es s).getD (ofV z) = q) : LookLaw P t (.mp b) (.str s) false σ q := by
  refine ⟨fun K w u v hm hx hi' => ?_⟩
  cases hx
  cases hi'
  obtain ⟨g1, ents, clock, g2, g3, g4⟩ : (∀ o, ¬ K b o) ∧ ∃ ents clock, w.heap[b]? = some (.map ents clock) ∧ ents.size = es.length ∧
      ∀ i, i < es.length → VRel K w (es.getD i (.dead, .dead)).1 (ents.getD i default).key ∧ VRel K w (es.getD i (.dead, .dead)).2 (ents.getD i default).val := hm.blk _ hl.mem
  have e1 : (getObj b).run P w = .ok (.map ents clock) w := by simp [getObj, Sem.run, g2]
  have e0 : ∀ e, (Instr.checkKey e 10000 kt (.string ⟨s.toArray⟩)).run P w = .ok () w := fun e => checkKey_str 9999 e hkt
  rcases findNow_getS (K := K) (w := w) (s := s) es ents.toList 0 (by simp [g3]) (fun i hi => by
    have := g4 i hi
    simpa [List.getD_eq_getElem?_getD, Array.getD_eq_getD_getElem?] using this) hk with ⟨h1, h2⟩ | ⟨v', i, z', h1, h2, h3⟩
  · rw [h1] at hq
    simp only [Option.getD_none] at hq
    exact ⟨z, by simp [Instr.lookup, run_underlying ht, e1, e0, run_underlying hkt, Instr.findKey, h2, run_zeroValue hi hz], hq ▸ ofV_rel z⟩
  · rw [h1] at hq
    simp only [Option.getD_some] at hq
    exact ⟨z', by simp [Instr.lookup, run_underlying ht, e1, e0, run_underlying hkt, Instr.findKey, h2], hq ▸ h3⟩
/-- Of what comes second nothing is used. -/
theorem Pure.hide {W : World} {f : FuncId} {args : List PV} {σ : Mem} {k : PV → Mem → Prop} {a e : PV} (h : Pure P W f args (.tup [a, e])) (hk : ∀ v, k (.tup [a, .lit v]) σ) : ACalls P W f args σ k := by
  have h1 := h.use (σ := σ) (k := fun pv s => pv = .tup [a, e] ∧ s = σ) ⟨rfl, rfl⟩
  refine ⟨h1.body, fun K w vs hl hr hm hp => (h1.run K w vs hl hr hm hp).mono ?_⟩
  rintro e' w' ⟨v, pv, σ', K', h2, ⟨rfl, rfl⟩, h4, h5, h6⟩
  cases h4 with
  | tup _ us hl' hr' =>
    match us, hl' with
    | [u0, u1], _ =>
      refine ⟨_, .tup [a, .lit u1], _, K', h2, hk u1, .tup [a, .lit u1] [u0, u1] rfl fun i hi => ?_, h5, h6⟩
      match i, hi with
      | 0, _ => exact hr' 0 (by simp)
      | 1, _ => exact .lit _
end Go.Eng
end

/- The document's reading of a line: happened (b_ x_ q_ e_). -/
section
namespace Go.Eng.YtlffjmnnoceakaaDoor
open Go Go.Eng Go.Proofs Go.RowKit
variable (W : World)
set_option linter.unusedSimpArgs false
set_option maxRecDepth 100000
set_option linter.unusedVariables false
set_option maxHeartbeats 4000000
def kindEs : List (PV × PV) := [(.str sSays, .int .i64 1), (.str sStrikes, .int .i64 2), (.str sSizes, .int .i64 3), (.str sDrains, .int .i64 4)]
def manyEs : List (PV × PV) := [(.int .i64 1, .int .i64 3), (.int .i64 2, .int .i64 3), (.int .i64 3, .int .i64 4), (.int .i64 4, .int .i64 2)]
theorem get_kind (w : List UInt8) : (getS kindEs w).getD (.int .i64 0) = .int .i64 (kindD w) := by
  unfold kindEs kindD
  simp only [getS]
  (repeat' split) <;> rfl
theorem get_many (k : Int) : (getI manyEs k).getD (.int .i64 0) = .int .i64 (manyD k) := by
  unfold manyEs manyD
  simp only [getI]
  (repeat' split) <;> rfl
theorem look_kind {b : Nat} {s : List UInt8} {σ r : Mem} (hl : Look σ b (.mpc kindEs) r) : LookLaw Tryd.prog 55 (.mp b) (.str s) false σ (.int .i64 (kindD s)) :=
  look_str (kt := 9) (et := 3) (i0 := (Tryd.prog.info? 3).getD default) (z := .int .i64 0) hl (show Tryd.prog.underlying 55 = _ by kernel_rfl) (show Tryd.prog.underlying 9 = _ by kernel_rfl) (by kernel_rfl) (by kernel_rfl) (by decide) (get_kind s)
theorem look_many {b : Nat} {n : Int} {σ r : Mem} (hl : Look σ b (.mpc manyEs) r) : LookLaw Tryd.prog 56 (.mp b) (.int .i64 n) false σ (.int .i64 (manyD n)) :=
  look_int (kt := 3) (et := 3) (i0 := (Tryd.prog.info? 3).getD default) (z := .int .i64 0) hl (show Tryd.prog.underlying 56 = _ by kernel_rfl) (show Tryd.prog.underlying 3 = _ by kernel_rfl) (by kernel_rfl) (by kernel_rfl) (by decide) (get_many n)
theorem happened_ok (hN : Nums W) (hM : MaxJ W) (hE : ErrJ W) (s : List UInt8) (hs : s.length ≤ 1048576) : Pure Tryd.prog W 11 [.str s] (.tup [encHap (hapD s), .bool (goodD s)]) := by
  have hsp := split_ok W hM s 32 (by omega)
  have hlen := splt_len 32 s
  have hne := splt_ne 32 s
  have hok := hapD_ok s
  generalize hX : hapD s = X at *
  generalize hG : goodD s = G
  unfold goodD at hG
  rw [hX] at hG
  unfold hapD at hX
  generalize splt 32 s = L at *
  obtain ⟨w0, ws, rfl⟩ : ∃ a l, L = a :: l := List.exists_cons_of_ne_nil hne
  simp only [List.headD_cons] at hX hG
  have hk4 : kindD w0 = 0 ∨ kindD w0 = 1 ∨ kindD w0 = 2 ∨ kindD w0 = 3 ∨ kindD w0 = 4 := by
    unfold kindD
    (repeat' split) <;> simp
  have hki : i64ok (kindD w0) := by unfold i64ok; omega
  obtain ⟨k, hkd⟩ : ∃ k, kindD w0 = k := ⟨_, rfl⟩
  simp only [hkd] at hX hG hk4 hki
  have lk : ∀ {b : Nat} {σ r : Mem}, Look σ b (.mpc kindEs) r → LookLaw Tryd.prog 55 (.mp b) (.str w0) false σ (.int .i64 k) := fun hl => hkd ▸ look_kind hl
  rcases Decidable.em (k = 0) with rfl | k0
  · simp only [true_or, if_true] at hX hG
    subst hX hG
    refine Pure.of (acalls_of_vc (DL_ok (by decide)) Tryd.func11 rfl (by decide) (by decide) rfl ?_)
    (refine g0_ ?_; repeat ((first | refine n1_ fun b_ => ?_ | refine n2_ fun b_ => ?_ | refine Nat1.mk fun q_ hq_ => ?_ | refine em_ fun x_ hx_ => ?_ | refine Elem1.mk fun e_ he_ => ?_); refine g0_ ?_))
    refine (hsp).use ?_; (refine g0_ ?_; repeat ((first | refine n1_ fun b_ => ?_ | refine n2_ fun b_ => ?_ | refine Nat1.mk fun q_ hq_ => ?_ | refine em_ fun x_ hx_ => ?_ | refine Elem1.mk fun e_ he_ => ?_); refine g0_ ?_))
    (refine g0_ ?_; repeat ((first | refine n1_ fun b_ => ?_ | refine n2_ fun b_ => ?_ | refine Nat1.mk fun q_ hq_ => ?_ | refine em_ fun x_ hx_ => ?_ | refine Elem1.mk fun e_ he_ => ?_); refine g0_ ?_))
    refine ⟨_, lk (by repeat (first | exact .here _ _ _ | apply Look.there)), ?_⟩
    (refine g0_ ?_; repeat ((first | refine n1_ fun b_ => ?_ | refine n2_ fun b_ => ?_ | refine Nat1.mk fun q_ hq_ => ?_ | refine em_ fun x_ hx_ => ?_ | refine Elem1.mk fun e_ he_ => ?_); refine g0_ ?_))
    (refine g1_ ?_; repeat ((first | refine n1_ fun b_ => ?_ | refine n2_ fun b_ => ?_ | refine Nat1.mk fun q_ hq_ => ?_ | refine em_ fun x_ hx_ => ?_ | refine Elem1.mk fun e_ he_ => ?_); refine g1_ ?_))
    exact .of_eq (by rfl)
  · rcases Decidable.em ((w0 :: ws).length = manyD k) with hm | hm
    · have hab : ¬ (k = 0 ∨ (w0 :: ws).length ≠ manyD k) := fun h => h.elim k0 fun h => h hm
      rw [if_neg hab] at hX hG
      by_cases k3 : k = 3
      · subst k3
        rw [if_pos rfl] at hX
        obtain ⟨w1, w2, w3, rfl⟩ : ∃ a b c, ws = [a, b, c] := by
          rw [show manyD 3 = 4 from rfl] at hm
          match ws, hm with
          | [a, b, c], _ => exact ⟨a, b, c, rfl⟩
        simp only [List.getD_cons_zero, List.getD_cons_succ] at hX
        have ha := atoi_ok W hE w1 (by have := hlen w1 (by simp); omega)
        have ha2 := atoi_ok W hE w2 (by have := hlen w2 (by simp); omega)
        have ha3 := atoi_ok W hE w3 (by have := hlen w3 (by simp); omega)
        have hyl : ([] : List UInt8).length ≤ 1048576 := by decide
        refine Pure.of (acalls_of_vc (DL_ok (by decide)) Tryd.func11 rfl (by decide) (by decide) rfl ?_)
        (refine g0_ ?_; repeat ((first | refine n1_ fun b_ => ?_ | refine n2_ fun b_ => ?_ | refine Nat1.mk fun q_ hq_ => ?_ | refine em_ fun x_ hx_ => ?_ | refine Elem1.mk fun e_ he_ => ?_); refine g0_ ?_))
        refine (hsp).use ?_; (refine g0_ ?_; repeat ((first | refine n1_ fun b_ => ?_ | refine n2_ fun b_ => ?_ | refine Nat1.mk fun q_ hq_ => ?_ | refine em_ fun x_ hx_ => ?_ | refine Elem1.mk fun e_ he_ => ?_); refine g0_ ?_))
        (refine g0_ ?_; repeat ((first | refine n1_ fun b_ => ?_ | refine n2_ fun b_ => ?_ | refine Nat1.mk fun q_ hq_ => ?_ | refine em_ fun x_ hx_ => ?_ | refine Elem1.mk fun e_ he_ => ?_); refine g0_ ?_))
        refine ⟨_, lk (by repeat (first | exact .here _ _ _ | apply Look.there)), ?_⟩
        (refine g0_ ?_; repeat ((first | refine n1_ fun b_ => ?_ | refine n2_ fun b_ => ?_ | refine Nat1.mk fun q_ hq_ => ?_ | refine em_ fun x_ hx_ => ?_ | refine Elem1.mk fun e_ he_ => ?_); refine g0_ ?_))
        (refine g1_ ?_; repeat ((first | refine n1_ fun b_ => ?_ | refine n2_ fun b_ => ?_ | refine Nat1.mk fun q_ hq_ => ?_ | refine em_ fun x_ hx_ => ?_ | refine Elem1.mk fun e_ he_ => ?_); refine g1_ ?_))
        refine ⟨_, look_many (by repeat (first | exact .here _ _ _ | apply Look.there)), ?_⟩
        (refine g0_ ?_; repeat ((first | refine n1_ fun b_ => ?_ | refine n2_ fun b_ => ?_ | refine Nat1.mk fun q_ hq_ => ?_ | refine em_ fun x_ hx_ => ?_ | refine Elem1.mk fun e_ he_ => ?_); refine g0_ ?_))
        refine ha.hide fun v_ => ?_
        (refine g1_ ?_; repeat ((first | refine n1_ fun b_ => ?_ | refine n2_ fun b_ => ?_ | refine Nat1.mk fun q_ hq_ => ?_ | refine em_ fun x_ hx_ => ?_ | refine Elem1.mk fun e_ he_ => ?_); refine g1_ ?_))
        refine ha2.hide fun v2_ => ?_
        (refine g1_ ?_; repeat ((first | refine n1_ fun b_ => ?_ | refine n2_ fun b_ => ?_ | refine Nat1.mk fun q_ hq_ => ?_ | refine em_ fun x_ hx_ => ?_ | refine Elem1.mk fun e_ he_ => ?_); refine g1_ ?_))
        refine ha3.hide fun v3_ => ?_
        (refine g1_ ?_; repeat ((first | refine n1_ fun b_ => ?_ | refine n2_ fun b_ => ?_ | refine Nat1.mk fun q_ hq_ => ?_ | refine em_ fun x_ hx_ => ?_ | refine Elem1.mk fun e_ he_ => ?_); refine g1_ ?_))
        have hk1 := isHap_ok W ⟨3, cntV w1, [], cntV w2, cntV w3⟩ (Nat.le_trans hyl (by decide))
        have hk2 := happens_ok W hN ⟨3, cntV w1, [], cntV w2, cntV w3⟩ (hX ▸ hok) hyl
        rw [← hX] at hG
        refine Draws10.chain ⟨10, [.new, .new, .new, .new, .new, .new, .new, .new, .new, .turn], [(9, [.keep, .keep, .keep, .keep, .keep, .keep, .again, .again, .again, .keep])], by decide +kernel, ?_⟩; (refine g0_ ?_; repeat ((first | refine n1_ fun b_ => ?_ | refine n2_ fun b_ => ?_ | refine Nat1.mk fun q_ hq_ => ?_ | refine em_ fun x_ hx_ => ?_ | refine Elem1.mk fun e_ he_ => ?_); refine g0_ ?_))
        refine ⟨_, (hk1).quiet, ?_⟩; (refine g0_ ?_; repeat ((first | refine n1_ fun b_ => ?_ | refine n2_ fun b_ => ?_ | refine Nat1.mk fun q_ hq_ => ?_ | refine em_ fun x_ hx_ => ?_ | refine Elem1.mk fun e_ he_ => ?_); refine g0_ ?_))
        (refine g0_ ?_; repeat ((first | refine n1_ fun b_ => ?_ | refine n2_ fun b_ => ?_ | refine Nat1.mk fun q_ hq_ => ?_ | refine em_ fun x_ hx_ => ?_ | refine Elem1.mk fun e_ he_ => ?_); refine g0_ ?_))
        cases hc : checkH ⟨3, cntV w1, [], cntV w2, cntV w3⟩ with
        | false =>
          rw [hc] at hG
          (refine g0_ ?_; repeat ((first | refine n1_ fun b_ => ?_ | refine n2_ fun b_ => ?_ | refine Nat1.mk fun q_ hq_ => ?_ | refine em_ fun x_ hx_ => ?_ | refine Elem1.mk fun e_ he_ => ?_); refine g0_ ?_))
          exact .of_eq (by rw [← hX, ← hG]; rfl)
        | true =>
          rw [hc] at hG
          (refine g0_ ?_; repeat ((first | refine n1_ fun b_ => ?_ | refine n2_ fun b_ => ?_ | refine Nat1.mk fun q_ hq_ => ?_ | refine em_ fun x_ hx_ => ?_ | refine Elem1.mk fun e_ he_ => ?_); refine g0_ ?_))
          refine ⟨_, (hk2).quiet, ?_⟩; (refine g0_ ?_; repeat ((first | refine n1_ fun b_ => ?_ | refine n2_ fun b_ => ?_ | refine Nat1.mk fun q_ hq_ => ?_ | refine em_ fun x_ hx_ => ?_ | refine Elem1.mk fun e_ he_ => ?_); refine g0_ ?_))
          (refine g0_ ?_; repeat ((first | refine n1_ fun b_ => ?_ | refine n2_ fun b_ => ?_ | refine Nat1.mk fun q_ hq_ => ?_ | refine em_ fun x_ hx_ => ?_ | refine Elem1.mk fun e_ he_ => ?_); refine g0_ ?_))
          exact .of_eq (by rw [← hX, ← hG]; rfl)
      · rw [if_neg k3] at hX
        by_cases k4 : k = 4
        · subst k4
          obtain ⟨w1, rfl⟩ : ∃ a, ws = [a] := by
            rw [show manyD 4 = 2 from rfl] at hm
            match ws, hm with
            | [a], _ => exact ⟨a, rfl⟩
          rw [if_neg (show ¬ [w0, w1].length = 3 by simp)] at hX
          simp only [List.getD_cons_zero, List.getD_cons_succ] at hX
          have ha := atoi_ok W hE w1 (by have := hlen w1 (by simp); omega)
          have hyl : ([] : List UInt8).length ≤ 1048576 := by decide
          refine Pure.of (acalls_of_vc (DL_ok (by decide)) Tryd.func11 rfl (by decide) (by decide) rfl ?_)
          (refine g0_ ?_; repeat ((first | refine n1_ fun b_ => ?_ | refine n2_ fun b_ => ?_ | refine Nat1.mk fun q_ hq_ => ?_ | refine em_ fun x_ hx_ => ?_ | refine Elem1.mk fun e_ he_ => ?_); refine g0_ ?_))
          refine (hsp).use ?_; (refine g0_ ?_; repeat ((first | refine n1_ fun b_ => ?_ | refine n2_ fun b_ => ?_ | refine Nat1.mk fun q_ hq_ => ?_ | refine em_ fun x_ hx_ => ?_ | refine Elem1.mk fun e_ he_ => ?_); refine g0_ ?_))
          (refine g0_ ?_; repeat ((first | refine n1_ fun b_ => ?_ | refine n2_ fun b_ => ?_ | refine Nat1.mk fun q_ hq_ => ?_ | refine em_ fun x_ hx_ => ?_ | refine Elem1.mk fun e_ he_ => ?_); refine g0_ ?_))
          refine ⟨_, lk (by repeat (first | exact .here _ _ _ | apply Look.there)), ?_⟩
          (refine g0_ ?_; repeat ((first | refine n1_ fun b_ => ?_ | refine n2_ fun b_ => ?_ | refine Nat1.mk fun q_ hq_ => ?_ | refine em_ fun x_ hx_ => ?_ | refine Elem1.mk fun e_ he_ => ?_); refine g0_ ?_))
          (refine g1_ ?_; repeat ((first | refine n1_ fun b_ => ?_ | refine n2_ fun b_ => ?_ | refine Nat1.mk fun q_ hq_ => ?_ | refine em_ fun x_ hx_ => ?_ | refine Elem1.mk fun e_ he_ => ?_); refine g1_ ?_))
          refine ⟨_, look_many (by repeat (first | exact .here _ _ _ | apply Look.there)), ?_⟩
          (refine g0_ ?_; repeat ((first | refine n1_ fun b_ => ?_ | refine n2_ fun b_ => ?_ | refine Nat1.mk fun q_ hq_ => ?_ | refine em_ fun x_ hx_ => ?_ | refine Elem1.mk fun e_ he_ => ?_); refine g0_ ?_))
          refine ha.hide fun v_ => ?_
          (refine g1_ ?_; repeat ((first | refine n1_ fun b_ => ?_ | refine n2_ fun b_ => ?_ | refine Nat1.mk fun q_ hq_ => ?_ | refine em_ fun x_ hx_ => ?_ | refine Elem1.mk fun e_ he_ => ?_); refine g1_ ?_))
          have hk1 := isHap_ok W ⟨4, cntV w1, [], 0, 0⟩ (Nat.le_trans hyl (by decide))
          have hk2 := happens_ok W hN ⟨4, cntV w1, [], 0, 0⟩ (hX ▸ hok) hyl
          rw [← hX] at hG
          refine Draws10.chain ⟨10, [.new, .new, .new, .new, .new, .new, .new, .new, .new, .turn], [(9, [.keep, .keep, .keep, .keep, .keep, .keep, .again, .again, .again, .keep])], by decide +kernel, ?_⟩; (refine g0_ ?_; repeat ((first | refine n1_ fun b_ => ?_ | refine n2_ fun b_ => ?_ | refine Nat1.mk fun q_ hq_ => ?_ | refine em_ fun x_ hx_ => ?_ | refine Elem1.mk fun e_ he_ => ?_); refine g0_ ?_))
          refine ⟨_, (hk1).quiet, ?_⟩; (refine g0_ ?_; repeat ((first | refine n1_ fun b_ => ?_ | refine n2_ fun b_ => ?_ | refine Nat1.mk fun q_ hq_ => ?_ | refine em_ fun x_ hx_ => ?_ | refine Elem1.mk fun e_ he_ => ?_); refine g0_ ?_))
          (refine g0_ ?_; repeat ((first | refine n1_ fun b_ => ?_ | refine n2_ fun b_ => ?_ | refine Nat1.mk fun q_ hq_ => ?_ | refine em_ fun x_ hx_ => ?_ | refine Elem1.mk fun e_ he_ => ?_); refine g0_ ?_))
          cases hc : checkH ⟨4, cntV w1, [], 0, 0⟩ with
          | false =>
            rw [hc] at hG
            (refine g0_ ?_; repeat ((first | refine n1_ fun b_ => ?_ | refine n2_ fun b_ => ?_ | refine Nat1.mk fun q_ hq_ => ?_ | refine em_ fun x_ hx_ => ?_ | refine Elem1.mk fun e_ he_ => ?_); refine g0_ ?_))
            exact .of_eq (by rw [← hX, ← hG]; rfl)
          | true =>
            rw [hc] at hG
            (refine g0_ ?_; repeat ((first | refine n1_ fun b_ => ?_ | refine n2_ fun b_ => ?_ | refine Nat1.mk fun q_ hq_ => ?_ | refine em_ fun x_ hx_ => ?_ | refine Elem1.mk fun e_ he_ => ?_); refine g0_ ?_))
            refine ⟨_, (hk2).quiet, ?_⟩; (refine g0_ ?_; repeat ((first | refine n1_ fun b_ => ?_ | refine n2_ fun b_ => ?_ | refine Nat1.mk fun q_ hq_ => ?_ | refine em_ fun x_ hx_ => ?_ | refine Elem1.mk fun e_ he_ => ?_); refine g0_ ?_))
            (refine g0_ ?_; repeat ((first | refine n1_ fun b_ => ?_ | refine n2_ fun b_ => ?_ | refine Nat1.mk fun q_ hq_ => ?_ | refine em_ fun x_ hx_ => ?_ | refine Elem1.mk fun e_ he_ => ?_); refine g0_ ?_))
            exact .of_eq (by rw [← hX, ← hG]; rfl)
        · have hm3 : manyD k = 3 := by unfold manyD; (repeat' split) <;> omega
          obtain ⟨w1, w2, rfl⟩ : ∃ a b, ws = [a, b] := by
            rw [hm3] at hm
            match ws, hm with
            | [a, b], _ => exact ⟨a, b, rfl⟩
          rw [if_pos (by simp)] at hX
          simp only [List.getD_cons_zero, List.getD_cons_succ] at hX
          have ha := atoi_ok W hE w1 (by have := hlen w1 (by simp); omega)
          refine Pure.of (acalls_of_vc (DL_ok (by decide)) Tryd.func11 rfl (by decide) (by decide) rfl ?_)
          (refine g0_ ?_; repeat ((first | refine n1_ fun b_ => ?_ | refine n2_ fun b_ => ?_ | refine Nat1.mk fun q_ hq_ => ?_ | refine em_ fun x_ hx_ => ?_ | refine Elem1.mk fun e_ he_ => ?_); refine g0_ ?_))
          refine (hsp).use ?_; (refine g0_ ?_; repeat ((first | refine n1_ fun b_ => ?_ | refine n2_ fun b_ => ?_ | refine Nat1.mk fun q_ hq_ => ?_ | refine em_ fun x_ hx_ => ?_ | refine Elem1.mk fun e_ he_ => ?_); refine g0_ ?_))
          (refine g0_ ?_; repeat ((first | refine n1_ fun b_ => ?_ | refine n2_ fun b_ => ?_ | refine Nat1.mk fun q_ hq_ => ?_ | refine em_ fun x_ hx_ => ?_ | refine Elem1.mk fun e_ he_ => ?_); refine g0_ ?_))
          refine ⟨_, lk (by repeat (first | exact .here _ _ _ | apply Look.there)), ?_⟩
          (refine g0_ ?_; repeat ((first | refine n1_ fun b_ => ?_ | refine n2_ fun b_ => ?_ | refine Nat1.mk fun q_ hq_ => ?_ | refine em_ fun x_ hx_ => ?_ | refine Elem1.mk fun e_ he_ => ?_); refine g0_ ?_))
          (refine g1_ ?_; repeat ((first | refine n1_ fun b_ => ?_ | refine n2_ fun b_ => ?_ | refine Nat1.mk fun q_ hq_ => ?_ | refine em_ fun x_ hx_ => ?_ | refine Elem1.mk fun e_ he_ => ?_); refine g1_ ?_))
          refine ⟨_, look_many (by repeat (first | exact .here _ _ _ | apply Look.there)), ?_⟩
          (refine g0_ ?_; repeat ((first | refine n1_ fun b_ => ?_ | refine n2_ fun b_ => ?_ | refine Nat1.mk fun q_ hq_ => ?_ | refine em_ fun x_ hx_ => ?_ | refine Elem1.mk fun e_ he_ => ?_); refine g0_ ?_))
          refine brec ?_; intro c_ hz; (try rw [hz]); cases c_ <;> replace hz := nm_ hz
          · (refine g0_ ?_; repeat ((first | refine n1_ fun b_ => ?_ | refine n2_ fun b_ => ?_ | refine Nat1.mk fun q_ hq_ => ?_ | refine em_ fun x_ hx_ => ?_ | refine Elem1.mk fun e_ he_ => ?_); refine g0_ ?_))
            refine ha.hide fun v_ => ?_
            (refine g1_ ?_; repeat ((first | refine n1_ fun b_ => ?_ | refine n2_ fun b_ => ?_ | refine Nat1.mk fun q_ hq_ => ?_ | refine em_ fun x_ hx_ => ?_ | refine Elem1.mk fun e_ he_ => ?_); refine g1_ ?_))
            rename_i bR bK bX
            have hw2 : w2.length ≤ 1048576 := by have := hlen w2 (by simp); omega
            refine' loopI (α := Nat × (List UInt8)) (fun (i, a) => [(7, .int .i64 i)]) [(0, _), (2, _), (4, _), (6, _)] (fun (i, a) => [⟨bX, .row 5 [.agg [.int .i64 k, .int .i64 (cntV w1), .str a, .int .i64 0, .int .i64 0]] 0⟩, ⟨bR, .row 5 [.agg [.int .i64 0, .int .i64 0, .str [], .int .i64 0, .int .i64 0]] 0⟩]) (fun (i, a) => i ≤ w2.length ∧ a.length ≤ i ∧ unqD w2 = a ++ unqD (w2.drop i)) (fun (i, a) => w2.length - i) (0, []) ?_ ?_
            · exact ⟨Nat.zero_le _, Nat.le_refl _, rfl⟩
            rintro ⟨i, a⟩ ⟨hi, hal, hu⟩
            (refine g0_ ?_; repeat ((first | refine n1_ fun b_ => ?_ | refine n2_ fun b_ => ?_ | refine Nat1.mk fun q_ hq_ => ?_ | refine em_ fun x_ hx_ => ?_ | refine Elem1.mk fun e_ he_ => ?_); refine g0_ ?_))
            refine brec ?_; intro c_ h1; (try rw [h1]); cases c_ <;> replace h1 := nm_ h1
            · have hi2 : i = w2.length := by simp at h1; omega
              subst hi2
              rw [List.drop_length, show unqD [] = [] from rfl, List.append_nil] at hu
              rw [hu] at hX
              (refine g0_ ?_; repeat ((first | refine n1_ fun b_ => ?_ | refine n2_ fun b_ => ?_ | refine Nat1.mk fun q_ hq_ => ?_ | refine em_ fun x_ hx_ => ?_ | refine Elem1.mk fun e_ he_ => ?_); refine g0_ ?_))
              have hyl : a.length ≤ 1048576 := by have := hlen w2 (by simp); omega
              have hk1 := isHap_ok W ⟨k, cntV w1, a, 0, 0⟩ (Nat.le_trans hyl (by decide))
              have hk2 := happens_ok W hN ⟨k, cntV w1, a, 0, 0⟩ (hX ▸ hok) hyl
              rw [← hX] at hG
              refine Draws10.chain ⟨10, [.new, .new, .new, .new, .new, .new, .new, .new, .new, .turn], [(9, [.keep, .keep, .keep, .keep, .keep, .keep, .again, .again, .again, .keep])], by decide +kernel, ?_⟩; (refine g0_ ?_; repeat ((first | refine n1_ fun b_ => ?_ | refine n2_ fun b_ => ?_ | refine Nat1.mk fun q_ hq_ => ?_ | refine em_ fun x_ hx_ => ?_ | refine Elem1.mk fun e_ he_ => ?_); refine g0_ ?_))
              refine ⟨_, (hk1).quiet, ?_⟩; (refine g0_ ?_; repeat ((first | refine n1_ fun b_ => ?_ | refine n2_ fun b_ => ?_ | refine Nat1.mk fun q_ hq_ => ?_ | refine em_ fun x_ hx_ => ?_ | refine Elem1.mk fun e_ he_ => ?_); refine g0_ ?_))
              (refine g0_ ?_; repeat ((first | refine n1_ fun b_ => ?_ | refine n2_ fun b_ => ?_ | refine Nat1.mk fun q_ hq_ => ?_ | refine em_ fun x_ hx_ => ?_ | refine Elem1.mk fun e_ he_ => ?_); refine g0_ ?_))
              cases hc : checkH ⟨k, cntV w1, a, 0, 0⟩ with
              | false =>
                rw [hc] at hG
                (refine g0_ ?_; repeat ((first | refine n1_ fun b_ => ?_ | refine n2_ fun b_ => ?_ | refine Nat1.mk fun q_ hq_ => ?_ | refine em_ fun x_ hx_ => ?_ | refine Elem1.mk fun e_ he_ => ?_); refine g0_ ?_))
                exact .of_eq (by rw [← hX, ← hG]; rfl)
              | true =>
                rw [hc] at hG
                (refine g0_ ?_; repeat ((first | refine n1_ fun b_ => ?_ | refine n2_ fun b_ => ?_ | refine Nat1.mk fun q_ hq_ => ?_ | refine em_ fun x_ hx_ => ?_ | refine Elem1.mk fun e_ he_ => ?_); refine g0_ ?_))
                refine ⟨_, (hk2).quiet, ?_⟩; (refine g0_ ?_; repeat ((first | refine n1_ fun b_ => ?_ | refine n2_ fun b_ => ?_ | refine Nat1.mk fun q_ hq_ => ?_ | refine em_ fun x_ hx_ => ?_ | refine Elem1.mk fun e_ he_ => ?_); refine g0_ ?_))
                (refine g0_ ?_; repeat ((first | refine n1_ fun b_ => ?_ | refine n2_ fun b_ => ?_ | refine Nat1.mk fun q_ hq_ => ?_ | refine em_ fun x_ hx_ => ?_ | refine Elem1.mk fun e_ he_ => ?_); refine g0_ ?_))
                exact .of_eq (by rw [← hX, ← hG]; rfl)
            · have hil : i < w2.length := by simp at h1; omega
              obtain ⟨x, hx⟩ : ∃ x, w2[i]? = some x := ⟨w2[i], List.getElem?_eq_getElem hil⟩
              have hd : ∀ t, w2.drop (i + 1) = t → w2.drop i = x :: t := by
                rintro t rfl
                rw [drop_cons1 hil]
                have := (List.getElem?_eq_some_iff.1 hx).2
                rw [this]
              (refine g0_ ?_; repeat ((first | refine n1_ fun b_ => ?_ | refine n2_ fun b_ => ?_ | refine Nat1.mk fun q_ hq_ => ?_ | refine em_ fun x_ hx_ => ?_ | refine Elem1.mk fun e_ he_ => ?_); refine g0_ ?_))
              rw [hx] at he_
              obtain rfl := Option.some.inj he_
              by_cases h37 : x.toNat = 37
              · by_cases h2 : i + 2 < w2.length
                · obtain ⟨y, z, t, hyz⟩ : ∃ y z t, w2.drop (i + 1) = y :: z :: t := by
                    have hl : 2 ≤ (w2.drop (i + 1)).length := by rw [List.length_drop]; omega
                    match hq : w2.drop (i + 1), hl with
                    | y :: z :: t, _ => exact ⟨y, z, t, rfl⟩
                  have hcut : List.drop (i + 1) (List.take (i + 3) w2) = [y, z] := by
                    rw [show i + 3 = (i + 1) + 2 by omega, List.drop_take, Nat.add_sub_cancel_left, hyz]; rfl
                  have hdr : w2.drop (i + 3) = t := by
                    have := congrArg (List.drop 2) hyz
                    rw [List.drop_drop] at this
                    simpa using this
                  have hp := parseUint_ok W hE y z
                  rw [hd _ hyz, unqD, if_pos h37] at hu
                  (refine g1_ ?_; repeat ((first | refine n1_ fun b_ => ?_ | refine n2_ fun b_ => ?_ | refine Nat1.mk fun q_ hq_ => ?_ | refine em_ fun x_ hx_ => ?_ | refine Elem1.mk fun e_ he_ => ?_); refine g1_ ?_))
                  rw [hcut]
                  have hn : (hex2 y z).getD 0 < 256 := by
                    cases hq : hex2 y z with
                    | none => exact by decide
                    | some n => exact hex2_lt hq
                  generalize (hex2 y z).getD 0 = n at *
                  refine hp.hide fun v_ => ?_
                  (refine g0_ ?_; repeat ((first | refine n1_ fun b_ => ?_ | refine n2_ fun b_ => ?_ | refine Nat1.mk fun q_ hq_ => ?_ | refine em_ fun x_ hx_ => ?_ | refine Elem1.mk fun e_ he_ => ?_); refine g0_ ?_))
                  refine .inl ?_
                  (refine g0_ ?_; repeat ((first | refine n1_ fun b_ => ?_ | refine n2_ fun b_ => ?_ | refine Nat1.mk fun q_ hq_ => ?_ | refine em_ fun x_ hx_ => ?_ | refine Elem1.mk fun e_ he_ => ?_); refine g0_ ?_))
                  refine ⟨[(n : Int)], rfl, ?_⟩
                  (refine g0_ ?_; repeat ((first | refine n1_ fun b_ => ?_ | refine n2_ fun b_ => ?_ | refine Nat1.mk fun q_ hq_ => ?_ | refine em_ fun x_ hx_ => ?_ | refine Elem1.mk fun e_ he_ => ?_); refine g0_ ?_))
                  refine nx_ (i + 3, a ++ [UInt8.ofNat n]) ?_ ?_
                  · exact ⟨by omega, by rw [List.length_append]; simp; omega, by rw [hdr, hu]; simp⟩
                  · ((try dsimp only); (try simp only [List.length_drop, List.length_take, List.length_append, List.length_cons, List.length_nil, List.length_map] at *); omega)
                · have hus : unqD w2 = (a ++ [x]) ++ unqD (w2.drop (i + 1)) := by
                    rw [hu, hd _ rfl]
                    have hl : (w2.drop (i + 1)).length ≤ 1 := by rw [List.length_drop]; omega
                    match hq : w2.drop (i + 1), hl with
                    | [], _ => simp [unqD]
                    | [y], _ => simp [unqD]
                  (refine g1_ ?_; repeat ((first | refine n1_ fun b_ => ?_ | refine n2_ fun b_ => ?_ | refine Nat1.mk fun q_ hq_ => ?_ | refine em_ fun x_ hx_ => ?_ | refine Elem1.mk fun e_ he_ => ?_); refine g1_ ?_))
                  have h11 : List.drop i (List.take (i + 1) w2) = [x] := by
                    rw [List.drop_take, Nat.add_sub_cancel_left, hd _ rfl]; rfl
                  refine headL_ (head_ ?_); (refine g0_ ?_; repeat ((first | refine n1_ fun b_ => ?_ | refine n2_ fun b_ => ?_ | refine Nat1.mk fun q_ hq_ => ?_ | refine em_ fun x_ hx_ => ?_ | refine Elem1.mk fun e_ he_ => ?_); refine g0_ ?_))
                  rw [h11]
                  (refine g0_ ?_; repeat ((first | refine n1_ fun b_ => ?_ | refine n2_ fun b_ => ?_ | refine Nat1.mk fun q_ hq_ => ?_ | refine em_ fun x_ hx_ => ?_ | refine Elem1.mk fun e_ he_ => ?_); refine g0_ ?_))
                  refine nx_ (i + 1, a ++ [x]) ?_ ?_
                  · exact ⟨by omega, by rw [List.length_append]; simp; omega, hus⟩
                  · ((try dsimp only); (try simp only [List.length_drop, List.length_take, List.length_append, List.length_cons, List.length_nil, List.length_map] at *); omega)
              · have hus : unqD w2 = (a ++ [x]) ++ unqD (w2.drop (i + 1)) := by
                  rw [hu, hd _ rfl, unqD_cons h37]; simp
                (refine g1_ ?_; repeat ((first | refine n1_ fun b_ => ?_ | refine n2_ fun b_ => ?_ | refine Nat1.mk fun q_ hq_ => ?_ | refine em_ fun x_ hx_ => ?_ | refine Elem1.mk fun e_ he_ => ?_); refine g1_ ?_))
                have h11 : List.drop i (List.take (i + 1) w2) = [x] := by
                  rw [List.drop_take, Nat.add_sub_cancel_left, hd _ rfl]; rfl
                refine headL_ (head_ ?_); (refine g0_ ?_; repeat ((first | refine n1_ fun b_ => ?_ | refine n2_ fun b_ => ?_ | refine Nat1.mk fun q_ hq_ => ?_ | refine em_ fun x_ hx_ => ?_ | refine Elem1.mk fun e_ he_ => ?_); refine g0_ ?_))
                rw [h11]
                (refine g0_ ?_; repeat ((first | refine n1_ fun b_ => ?_ | refine n2_ fun b_ => ?_ | refine Nat1.mk fun q_ hq_ => ?_ | refine em_ fun x_ hx_ => ?_ | refine Elem1.mk fun e_ he_ => ?_); refine g0_ ?_))
                refine nx_ (i + 1, a ++ [x]) ?_ ?_
                · exact ⟨by omega, by rw [List.length_append]; simp; omega, hus⟩
                · ((try dsimp only); (try simp only [List.length_drop, List.length_take, List.length_append, List.length_cons, List.length_nil, List.length_map] at *); omega)
          · simp [hm3] at hz
    · simp only [k0, hm, ne_eq, not_false_eq_true, or_true, if_true] at hX hG
      subst hX hG
      refine Pure.of (acalls_of_vc (DL_ok (by decide)) Tryd.func11 rfl (by decide) (by decide) rfl ?_)
      (refine g0_ ?_; repeat ((first | refine n1_ fun b_ => ?_ | refine n2_ fun b_ => ?_ | refine Nat1.mk fun q_ hq_ => ?_ | refine em_ fun x_ hx_ => ?_ | refine Elem1.mk fun e_ he_ => ?_); refine g0_ ?_))
      refine (hsp).use ?_; (refine g0_ ?_; repeat ((first | refine n1_ fun b_ => ?_ | refine n2_ fun b_ => ?_ | refine Nat1.mk fun q_ hq_ => ?_ | refine em_ fun x_ hx_ => ?_ | refine Elem1.mk fun e_ he_ => ?_); refine g0_ ?_))
      (refine g0_ ?_; repeat ((first | refine n1_ fun b_ => ?_ | refine n2_ fun b_ => ?_ | refine Nat1.mk fun q_ hq_ => ?_ | refine em_ fun x_ hx_ => ?_ | refine Elem1.mk fun e_ he_ => ?_); refine g0_ ?_))
      refine ⟨_, lk (by repeat (first | exact .here _ _ _ | apply Look.there)), ?_⟩
      (refine g0_ ?_; repeat ((first | refine n1_ fun b_ => ?_ | refine n2_ fun b_ => ?_ | refine Nat1.mk fun q_ hq_ => ?_ | refine em_ fun x_ hx_ => ?_ | refine Elem1.mk fun e_ he_ => ?_); refine g0_ ?_))
      (refine g1_ ?_; repeat ((first | refine n1_ fun b_ => ?_ | refine n2_ fun b_ => ?_ | refine Nat1.mk fun q_ hq_ => ?_ | refine em_ fun x_ hx_ => ?_ | refine Elem1.mk fun e_ he_ => ?_); refine g1_ ?_))
      refine ⟨_, look_many (by repeat (first | exact .here _ _ _ | apply Look.there)), ?_⟩
      (refine g0_ ?_; repeat ((first | refine n1_ fun b_ => ?_ | refine n2_ fun b_ => ?_ | refine Nat1.mk fun q_ hq_ => ?_ | refine em_ fun x_ hx_ => ?_ | refine Elem1.mk fun e_ he_ => ?_); refine g0_ ?_))
      refine brec ?_; intro c_ hz; (try rw [hz]); cases c_ <;> replace hz := nm_ hz
      · exact absurd (by rw [List.length_map] at hz; exact_mod_cast hz) hm
      · (refine g0_ ?_; repeat ((first | refine n1_ fun b_ => ?_ | refine n2_ fun b_ => ?_ | refine Nat1.mk fun q_ hq_ => ?_ | refine em_ fun x_ hx_ => ?_ | refine Elem1.mk fun e_ he_ => ?_); refine g0_ ?_))
        exact .of_eq (by rfl)
end Go.Eng.YtlffjmnnoceakaaDoor
end

/- The law RecordParse (b_ x_ q_ e_). -/
section
namespace Go.Eng.YtlffjmnnoceakaaDoor
open Go Go.Eng Go.Proofs
variable (W : World)
set_option linter.unusedSimpArgs false
set_option maxRecDepth 100000
set_option linter.unusedVariables false
set_option maxHeartbeats 4000000
theorem AtLine.len {s0 : List UInt8} {i : Nat} {want : List Hap} {s : List UInt8} (h : AtLine s0 i want s) : s.length ≤ s0.length ∧ want.length ≤ i := by
  constructor
  · have h1 := h.rest
    have h2 := join_splt 10 s0
    rw [h1]
    conv => rhs; rw [← h2]
    generalize splt 10 s0 = L
    clear h h1 h2
    have hj : ∀ (L : List (List UInt8)) (i : Nat), (joinC 10 (L.drop i)).length ≤ (joinC 10 L).length := by
      intro L
      induction L with
      | nil => intro i; simp
      | cons p l ih =>
        intro i
        cases i with
        | zero => simp
        | succ i =>
          rw [List.drop_succ_cons]
          refine Nat.le_trans (ih i) ?_
          cases l with
          | nil => simp [joinC]
          | cons q l => rw [joinC]; simp only [List.length_append, List.length_cons]; omega
    exact hj L i
  · rw [h.want, List.length_map]; exact List.length_take_le _ _
theorem recordParse_ok1 (hN : Nums W) (hM : MaxJ W) (hE : ErrJ W) (s0 : List UInt8) (hs : s0.length ≤ 1048576) : Pure Tryd.prog W 4 [.str s0] (.bool true) := by
  have hnt := noted_ok W hN
  have hct := count_ok W hM s0 10 (by omega)
  have hpa := parseR_ok W hN hM hE s0 (by omega) (fun p hp => by have := splt_len 10 s0 p hp; omega)
  have hne := List.length_pos_iff.2 (splt_ne 10 s0)
  by_cases h0 : 201 < (splt 10 s0).length
  · have hP : parseP s0 = ([], 0, 2) := by
      rw [parseP, if_neg (by rintro rfl; simp [splt] at h0), if_pos h0]
    rw [hP] at hpa
    simp only [parseV] at hpa
    refine Pure.of (acalls_of_vc (drawOk W) Tryd.func4 rfl (by decide) (by decide) rfl ?_)
    (refine g0_ ?_; repeat ((first | refine n1_ fun b_ => ?_ | refine n2_ fun b_ => ?_ | refine Nat1.mk fun q_ hq_ => ?_ | refine em_ fun x_ hx_ => ?_ | refine Elem1.mk fun e_ he_ => ?_); refine g0_ ?_))
    refine (hpa).use ?_; (refine g0_ ?_; repeat ((first | refine n1_ fun b_ => ?_ | refine n2_ fun b_ => ?_ | refine Nat1.mk fun q_ hq_ => ?_ | refine em_ fun x_ hx_ => ?_ | refine Elem1.mk fun e_ he_ => ?_); refine g0_ ?_))
    refine (hnt).use ?_; (refine g0_ ?_; repeat ((first | refine n1_ fun b_ => ?_ | refine n2_ fun b_ => ?_ | refine Nat1.mk fun q_ hq_ => ?_ | refine em_ fun x_ hx_ => ?_ | refine Elem1.mk fun e_ he_ => ?_); refine g0_ ?_))
    (refine g1_ ?_; repeat ((first | refine n1_ fun b_ => ?_ | refine n2_ fun b_ => ?_ | refine Nat1.mk fun q_ hq_ => ?_ | refine em_ fun x_ hx_ => ?_ | refine Elem1.mk fun e_ he_ => ?_); refine g1_ ?_))
    refine (hct).use ?_; (refine g0_ ?_; repeat ((first | refine n1_ fun b_ => ?_ | refine n2_ fun b_ => ?_ | refine Nat1.mk fun q_ hq_ => ?_ | refine em_ fun x_ hx_ => ?_ | refine Elem1.mk fun e_ he_ => ?_); refine g0_ ?_))
    (refine g1_ ?_; repeat ((first | refine n1_ fun b_ => ?_ | refine n2_ fun b_ => ?_ | refine Nat1.mk fun q_ hq_ => ?_ | refine em_ fun x_ hx_ => ?_ | refine Elem1.mk fun e_ he_ => ?_); refine g1_ ?_))
    refine (hnt).use ?_; (refine g0_ ?_; repeat ((first | refine n1_ fun b_ => ?_ | refine n2_ fun b_ => ?_ | refine Nat1.mk fun q_ hq_ => ?_ | refine em_ fun x_ hx_ => ?_ | refine Elem1.mk fun e_ he_ => ?_); refine g0_ ?_))
    (refine g1_ ?_; repeat ((first | refine n1_ fun b_ => ?_ | refine n2_ fun b_ => ?_ | refine Nat1.mk fun q_ hq_ => ?_ | refine em_ fun x_ hx_ => ?_ | refine Elem1.mk fun e_ he_ => ?_); refine g1_ ?_))
    exact .of_eq (by rfl)
  · generalize hpP : parseP s0 = R at hpa
    simp only [parseV] at hpa
    refine Pure.of (acalls_of_vc (drawOk W) Tryd.func4 rfl (by decide) (by decide) rfl ?_)
    (refine g0_ ?_; repeat ((first | refine n1_ fun b_ => ?_ | refine n2_ fun b_ => ?_ | refine Nat1.mk fun q_ hq_ => ?_ | refine em_ fun x_ hx_ => ?_ | refine Elem1.mk fun e_ he_ => ?_); refine g0_ ?_))
    refine (hpa).use ?_; (refine g0_ ?_; repeat ((first | refine n1_ fun b_ => ?_ | refine n2_ fun b_ => ?_ | refine Nat1.mk fun q_ hq_ => ?_ | refine em_ fun x_ hx_ => ?_ | refine Elem1.mk fun e_ he_ => ?_); refine g0_ ?_))
    refine (hnt).use ?_; (refine g0_ ?_; repeat ((first | refine n1_ fun b_ => ?_ | refine n2_ fun b_ => ?_ | refine Nat1.mk fun q_ hq_ => ?_ | refine em_ fun x_ hx_ => ?_ | refine Elem1.mk fun e_ he_ => ?_); refine g0_ ?_))
    (refine g1_ ?_; repeat ((first | refine n1_ fun b_ => ?_ | refine n2_ fun b_ => ?_ | refine Nat1.mk fun q_ hq_ => ?_ | refine em_ fun x_ hx_ => ?_ | refine Elem1.mk fun e_ he_ => ?_); refine g1_ ?_))
    refine (hct).use ?_; (refine g0_ ?_; repeat ((first | refine n1_ fun b_ => ?_ | refine n2_ fun b_ => ?_ | refine Nat1.mk fun q_ hq_ => ?_ | refine em_ fun x_ hx_ => ?_ | refine Elem1.mk fun e_ he_ => ?_); refine g0_ ?_))
    (refine g1_ ?_; repeat ((first | refine n1_ fun b_ => ?_ | refine n2_ fun b_ => ?_ | refine Nat1.mk fun q_ hq_ => ?_ | refine em_ fun x_ hx_ => ?_ | refine Elem1.mk fun e_ he_ => ?_); refine g1_ ?_))
    refine' loopI (α := Nat × Nat × (List PV) × (List Hap) × (List UInt8)) (fun (i, b, o, want, s) => [(0, .str s), (7, .int .i64 i), (6, accV b 5 o)]) [(3, _), (4, _), (5, _)] (fun (i, b, o, want, s) => accM b 5 o) (fun (i, b, o, want, s) => AtLine s0 i want s ∧ o = want.map encHap ∧ (∀ x ∈ want, x.ok ∧ x.bytes.length ≤ 140737488355328)) (fun (i, b, o, want, s) => (splt 10 s0).length - i) (0, 0, [], [], s0) ?_ ?_
    · exact ⟨AtLine.zero s0, rfl, by simp⟩
    rintro ⟨i, b, o, want, s⟩ ⟨hat, ho, hwk⟩
    obtain ⟨hsl, hwl⟩ := hat.len
    have hilt := hat.lt
    rcases o with _ | ⟨p0, o⟩
    · have hol := congrArg List.length ho
      simp only [List.length_cons, List.length_nil, List.length_map] at hol
      (refine g0_ ?_; repeat ((first | refine n1_ fun b_ => ?_ | refine n2_ fun b_ => ?_ | refine Nat1.mk fun q_ hq_ => ?_ | refine em_ fun x_ hx_ => ?_ | refine Elem1.mk fun e_ he_ => ?_); refine g0_ ?_))
      refine brec ?_; intro c_ h1; (try rw [h1]); cases c_ <;> replace h1 := nm_ h1
      · subst h1
        have hd := hat.done (by omega)
        rw [hd] at hpP
        subst hpP
        have heq := equal_haps W want want (by omega) hwk hwk
        rw [decide_eq_true rfl, ← ho] at heq
        rw [← ho]
        (refine g0_ ?_; repeat ((first | refine n1_ fun b_ => ?_ | refine n2_ fun b_ => ?_ | refine Nat1.mk fun q_ hq_ => ?_ | refine em_ fun x_ hx_ => ?_ | refine Elem1.mk fun e_ he_ => ?_); refine g0_ ?_))
        refine heq.borrow rfl rfl (fun j hj => ?_) ?_
        · match j, hj with
          | 0, _ => exact .refl _
          | 1, _ => exact frz_of_acc (b := b) (l := []) fun h => (h rfl).elim
        · (refine g0_ ?_; repeat ((first | refine n1_ fun b_ => ?_ | refine n2_ fun b_ => ?_ | refine Nat1.mk fun q_ hq_ => ?_ | refine em_ fun x_ hx_ => ?_ | refine Elem1.mk fun e_ he_ => ?_); refine g0_ ?_))
          exact .of_eq (by rfl)
      · by_cases hl : i + 1 = (splt 10 s0).length
        · obtain ⟨hc, hb⟩ := hat.last (by omega) h1 hl
          rw [hb] at hpP
          subst hpP
          have hcut := cutS_ok W hM s 10 (by omega)
          rw [hc] at hcut
          have hhp := happened_ok W hN hM hE s (by omega)
          (refine g0_ ?_; repeat ((first | refine n1_ fun b_ => ?_ | refine n2_ fun b_ => ?_ | refine Nat1.mk fun q_ hq_ => ?_ | refine em_ fun x_ hx_ => ?_ | refine Elem1.mk fun e_ he_ => ?_); refine g0_ ?_))
          refine (hcut).use ?_; (refine g0_ ?_; repeat ((first | refine n1_ fun b_ => ?_ | refine n2_ fun b_ => ?_ | refine Nat1.mk fun q_ hq_ => ?_ | refine em_ fun x_ hx_ => ?_ | refine Elem1.mk fun e_ he_ => ?_); refine g0_ ?_))
          refine (hhp).use ?_; (refine g0_ ?_; repeat ((first | refine n1_ fun b_ => ?_ | refine n2_ fun b_ => ?_ | refine Nat1.mk fun q_ hq_ => ?_ | refine em_ fun x_ hx_ => ?_ | refine Elem1.mk fun e_ he_ => ?_); refine g0_ ?_))
          (refine g1_ ?_; repeat ((first | refine n1_ fun b_ => ?_ | refine n2_ fun b_ => ?_ | refine Nat1.mk fun q_ hq_ => ?_ | refine em_ fun x_ hx_ => ?_ | refine Elem1.mk fun e_ he_ => ?_); refine g1_ ?_))
          exact .of_eq (by simp)
        · have hlt := hat.lt
          obtain ⟨p, r, hc, hi2, hsp, hnx⟩ := hat.cut (by omega)
          have hpl : p.length ≤ 1048576 := by rw [hsp] at hsl; simp only [List.length_append, List.length_cons] at hsl; omega
          have hcut := cutS_ok W hM s 10 (by omega)
          rw [hc] at hcut
          have hhp := happened_ok W hN hM hE p hpl
          cases hg : goodD p with
          | false =>
            have hb := hat.bad (by omega) (by omega) hi2 hg
            rw [hb] at hpP
            subst hpP
            rw [hg] at hhp
            (refine g0_ ?_; repeat ((first | refine n1_ fun b_ => ?_ | refine n2_ fun b_ => ?_ | refine Nat1.mk fun q_ hq_ => ?_ | refine em_ fun x_ hx_ => ?_ | refine Elem1.mk fun e_ he_ => ?_); refine g0_ ?_))
            refine (hcut).use ?_; (refine g0_ ?_; repeat ((first | refine n1_ fun b_ => ?_ | refine n2_ fun b_ => ?_ | refine Nat1.mk fun q_ hq_ => ?_ | refine em_ fun x_ hx_ => ?_ | refine Elem1.mk fun e_ he_ => ?_); refine g0_ ?_))
            refine (hhp).use ?_; (refine g0_ ?_; repeat ((first | refine n1_ fun b_ => ?_ | refine n2_ fun b_ => ?_ | refine Nat1.mk fun q_ hq_ => ?_ | refine em_ fun x_ hx_ => ?_ | refine Elem1.mk fun e_ he_ => ?_); refine g0_ ?_))
            (refine g1_ ?_; repeat ((first | refine n1_ fun b_ => ?_ | refine n2_ fun b_ => ?_ | refine Nat1.mk fun q_ hq_ => ?_ | refine em_ fun x_ hx_ => ?_ | refine Elem1.mk fun e_ he_ => ?_); refine g1_ ?_))
            exact .of_eq (by simp)
          | true =>
            rw [hg] at hhp
            (refine g0_ ?_; repeat ((first | refine n1_ fun b_ => ?_ | refine n2_ fun b_ => ?_ | refine Nat1.mk fun q_ hq_ => ?_ | refine em_ fun x_ hx_ => ?_ | refine Elem1.mk fun e_ he_ => ?_); refine g0_ ?_))
            refine (hcut).use ?_; (refine g0_ ?_; repeat ((first | refine n1_ fun b_ => ?_ | refine n2_ fun b_ => ?_ | refine Nat1.mk fun q_ hq_ => ?_ | refine em_ fun x_ hx_ => ?_ | refine Elem1.mk fun e_ he_ => ?_); refine g0_ ?_))
            refine (hhp).use ?_; (refine g0_ ?_; repeat ((first | refine n1_ fun b_ => ?_ | refine n2_ fun b_ => ?_ | refine Nat1.mk fun q_ hq_ => ?_ | refine em_ fun x_ hx_ => ?_ | refine Elem1.mk fun e_ he_ => ?_); refine g0_ ?_))
            (refine g1_ ?_; repeat ((first | refine n1_ fun b_ => ?_ | refine n2_ fun b_ => ?_ | refine Nat1.mk fun q_ hq_ => ?_ | refine em_ fun x_ hx_ => ?_ | refine Elem1.mk fun e_ he_ => ?_); refine g1_ ?_))
            refine .inl ?_
            (refine g0_ ?_; repeat ((first | refine n1_ fun b_ => ?_ | refine n2_ fun b_ => ?_ | refine Nat1.mk fun q_ hq_ => ?_ | refine em_ fun x_ hx_ => ?_ | refine Elem1.mk fun e_ he_ => ?_); refine g0_ ?_))
            refine nx_ (i + 1, b_, [] ++ [encHap (hapD p)], want ++ [hapD p], r) ?_ ?_
            · exact ⟨hnx hg, by rw [List.map_append, ← ho]; rfl, fun x hx => by
                rcases List.mem_append.1 hx with hx | hx
                · exact hwk x hx
                · simp at hx
                  subst hx
                  have := check_small (goodD_of hg).1
                  exact ⟨hapD_ok p, by omega⟩⟩
            · ((try dsimp only); (try simp only [List.length_drop, List.length_take, List.length_append, List.length_cons, List.length_nil, List.length_map] at *); omega)
    · have hol := congrArg List.length ho
      simp only [List.length_cons, List.length_nil, List.length_map] at hol
      (refine g0_ ?_; repeat ((first | refine n1_ fun b_ => ?_ | refine n2_ fun b_ => ?_ | refine Nat1.mk fun q_ hq_ => ?_ | refine em_ fun x_ hx_ => ?_ | refine Elem1.mk fun e_ he_ => ?_); refine g0_ ?_))
      refine brec ?_; intro c_ h1; (try rw [h1]); cases c_ <;> replace h1 := nm_ h1
      · subst h1
        have hd := hat.done (by omega)
        rw [hd] at hpP
        subst hpP
        have heq := equal_haps W want want (by omega) hwk hwk
        rw [decide_eq_true rfl, ← ho] at heq
        rw [← ho]
        (refine g0_ ?_; repeat ((first | refine n1_ fun b_ => ?_ | refine n2_ fun b_ => ?_ | refine Nat1.mk fun q_ hq_ => ?_ | refine em_ fun x_ hx_ => ?_ | refine Elem1.mk fun e_ he_ => ?_); refine g0_ ?_))
        refine heq.borrow rfl rfl (fun j hj => ?_) ?_
        · match j, hj with
          | 0, _ => exact .refl _
          | 1, _ => exact frz_of_acc (b := b) (l := (p0 :: o)) fun h => ⟨_, .here _ _ _⟩
        · (refine g0_ ?_; repeat ((first | refine n1_ fun b_ => ?_ | refine n2_ fun b_ => ?_ | refine Nat1.mk fun q_ hq_ => ?_ | refine em_ fun x_ hx_ => ?_ | refine Elem1.mk fun e_ he_ => ?_); refine g0_ ?_))
          exact .of_eq (by rfl)
      · by_cases hl : i + 1 = (splt 10 s0).length
        · obtain ⟨hc, hb⟩ := hat.last (by omega) h1 hl
          rw [hb] at hpP
          subst hpP
          have hcut := cutS_ok W hM s 10 (by omega)
          rw [hc] at hcut
          have hhp := happened_ok W hN hM hE s (by omega)
          (refine g0_ ?_; repeat ((first | refine n1_ fun b_ => ?_ | refine n2_ fun b_ => ?_ | refine Nat1.mk fun q_ hq_ => ?_ | refine em_ fun x_ hx_ => ?_ | refine Elem1.mk fun e_ he_ => ?_); refine g0_ ?_))
          refine (hcut).use ?_; (refine g0_ ?_; repeat ((first | refine n1_ fun b_ => ?_ | refine n2_ fun b_ => ?_ | refine Nat1.mk fun q_ hq_ => ?_ | refine em_ fun x_ hx_ => ?_ | refine Elem1.mk fun e_ he_ => ?_); refine g0_ ?_))
          refine (hhp).use ?_; (refine g0_ ?_; repeat ((first | refine n1_ fun b_ => ?_ | refine n2_ fun b_ => ?_ | refine Nat1.mk fun q_ hq_ => ?_ | refine em_ fun x_ hx_ => ?_ | refine Elem1.mk fun e_ he_ => ?_); refine g0_ ?_))
          (refine g1_ ?_; repeat ((first | refine n1_ fun b_ => ?_ | refine n2_ fun b_ => ?_ | refine Nat1.mk fun q_ hq_ => ?_ | refine em_ fun x_ hx_ => ?_ | refine Elem1.mk fun e_ he_ => ?_); refine g1_ ?_))
          exact .of_eq (by simp)
        · have hlt := hat.lt
          obtain ⟨p, r, hc, hi2, hsp, hnx⟩ := hat.cut (by omega)
          have hpl : p.length ≤ 1048576 := by rw [hsp] at hsl; simp only [List.length_append, List.length_cons] at hsl; omega
          have hcut := cutS_ok W hM s 10 (by omega)
          rw [hc] at hcut
          have hhp := happened_ok W hN hM hE p hpl
          cases hg : goodD p with
          | false =>
            have hb := hat.bad (by omega) (by omega) hi2 hg
            rw [hb] at hpP
            subst hpP
            rw [hg] at hhp
            (refine g0_ ?_; repeat ((first | refine n1_ fun b_ => ?_ | refine n2_ fun b_ => ?_ | refine Nat1.mk fun q_ hq_ => ?_ | refine em_ fun x_ hx_ => ?_ | refine Elem1.mk fun e_ he_ => ?_); refine g0_ ?_))
            refine (hcut).use ?_; (refine g0_ ?_; repeat ((first | refine n1_ fun b_ => ?_ | refine n2_ fun b_ => ?_ | refine Nat1.mk fun q_ hq_ => ?_ | refine em_ fun x_ hx_ => ?_ | refine Elem1.mk fun e_ he_ => ?_); refine g0_ ?_))
            refine (hhp).use ?_; (refine g0_ ?_; repeat ((first | refine n1_ fun b_ => ?_ | refine n2_ fun b_ => ?_ | refine Nat1.mk fun q_ hq_ => ?_ | refine em_ fun x_ hx_ => ?_ | refine Elem1.mk fun e_ he_ => ?_); refine g0_ ?_))
            (refine g1_ ?_; repeat ((first | refine n1_ fun b_ => ?_ | refine n2_ fun b_ => ?_ | refine Nat1.mk fun q_ hq_ => ?_ | refine em_ fun x_ hx_ => ?_ | refine Elem1.mk fun e_ he_ => ?_); refine g1_ ?_))
            exact .of_eq (by simp)
          | true =>
            rw [hg] at hhp
            (refine g0_ ?_; repeat ((first | refine n1_ fun b_ => ?_ | refine n2_ fun b_ => ?_ | refine Nat1.mk fun q_ hq_ => ?_ | refine em_ fun x_ hx_ => ?_ | refine Elem1.mk fun e_ he_ => ?_); refine g0_ ?_))
            refine (hcut).use ?_; (refine g0_ ?_; repeat ((first | refine n1_ fun b_ => ?_ | refine n2_ fun b_ => ?_ | refine Nat1.mk fun q_ hq_ => ?_ | refine em_ fun x_ hx_ => ?_ | refine Elem1.mk fun e_ he_ => ?_); refine g0_ ?_))
            refine (hhp).use ?_; (refine g0_ ?_; repeat ((first | refine n1_ fun b_ => ?_ | refine n2_ fun b_ => ?_ | refine Nat1.mk fun q_ hq_ => ?_ | refine em_ fun x_ hx_ => ?_ | refine Elem1.mk fun e_ he_ => ?_); refine g0_ ?_))
            (refine g1_ ?_; repeat ((first | refine n1_ fun b_ => ?_ | refine n2_ fun b_ => ?_ | refine Nat1.mk fun q_ hq_ => ?_ | refine em_ fun x_ hx_ => ?_ | refine Elem1.mk fun e_ he_ => ?_); refine g1_ ?_))
            refine .inl ?_
            (refine g0_ ?_; repeat ((first | refine n1_ fun b_ => ?_ | refine n2_ fun b_ => ?_ | refine Nat1.mk fun q_ hq_ => ?_ | refine em_ fun x_ hx_ => ?_ | refine Elem1.mk fun e_ he_ => ?_); refine g0_ ?_))
            refine nx_ (i + 1, b_, (p0 :: o) ++ [encHap (hapD p)], want ++ [hapD p], r) ?_ ?_
            · exact ⟨hnx hg, by rw [List.map_append, ← ho]; rfl, fun x hx => by
                rcases List.mem_append.1 hx with hx | hx
                · exact hwk x hx
                · simp at hx
                  subst hx
                  have := check_small (goodD_of hg).1
                  exact ⟨hapD_ok p, by omega⟩⟩
            · ((try dsimp only); (try simp only [List.length_drop, List.length_take, List.length_append, List.length_cons, List.length_nil, List.length_map] at *); omega)
theorem recordParse_ok (hR : Nums W ∧ ErrJ W) (hM : MaxJ W) (s : List UInt8) (hs : s.length ≤ 1048576) : Pure Tryd.prog W 4 [.str s] (.bool true) :=
  recordParse_ok1 W hR.1 hM hR.2 s hs
end Go.Eng.YtlffjmnnoceakaaDoor
end
