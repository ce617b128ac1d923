/- The engine, part 3: the conditions of part 2 are enough: operations that touch no memory. -/
import Derived.Test.YtlfdmdhkbillpaaDoorEng2
import Derived.WalkKit
import Derived.WalkLawsBesides
import Derived.WalkSpells
import Derived.Laws.Concat
namespace Go.Eng
open Go

variable {P : Program} {K : Kn} {w : World}

theorem ofV1_rel (v : Value) : VRel K w (ofV1 v) v := by
  unfold ofV1
  split
  · exact .bool _
  · exact .int _ _
  · exact .str _
  · exact .nils
  · exact .lit _
theorem ofV_rel (v : Value) : VRel K w (ofV v) v := by
  unfold ofV
  split
  · rename_i cs
    have := VRel.agg (K := K) (w := w) (cs.toList.map ofV1) cs.toList (by simp) (fun i hi => by
      simp at hi
      have h1 : (cs.toList.map ofV1).getD i .dead = ofV1 (cs.toList.getD i undef) := by
        simp [List.getD_eq_getElem?_getD, hi]
      rw [h1]; exact ofV1_rel _)
    simpa using this
  · exact ofV1_rel _
theorem ev_rel {env : Env} {a : Act} (h : ∀ t, VRel K w (env t) (a.tmps.getD t undef)) (x : Operand) : VRel K w (ev env x) (a.eval x) := by
  cases x with
  | tmp t => exact h t
  | const v => exact ofV_rel v
  | global g => exact .lit _
  | func f => exact .fn f [] [] rfl (fun i hi => by simp at hi)


theorem guard_int (op : BinOp) (t : TypeId) (xo yo : Operand) (i j : IntKind) (a b : Int) : (eqGuard op t xo yo (.int i a) (.int j b)).run P w = .ok () w := by
  cases op <;> rfl
theorem guard_str (op : BinOp) (t : TypeId) (xo yo : Operand) (a b : ByteArray) : (eqGuard op t xo yo (.string a) (.string b)).run P w = .ok () w := by
  cases op <;> rfl
theorem guard_bool (op : BinOp) (t : TypeId) (xo yo : Operand) (a b : Bool) : (eqGuard op t xo yo (.bool a) (.bool b)).run P w = .ok () w := by
  cases op <;> rfl
theorem toList_mk (a : List UInt8) : (⟨a.toArray⟩ : ByteArray).toList = a := by rw [ByteArray.toList_eq]
theorem binV_sound {op : BinOp} {x y : PV} {u v : Value} {k : PV → Prop} {t : TypeId} (xo yo : Operand) (hx : VRel K w x u) (hy : VRel K w y v) (h : binV P t op x y k) :
    ∃ pv r, (do eqGuard op t xo yo u v; binOp op t u v : Sem Value).run P w = .ok r w ∧ VRel K w pv r ∧ k pv := by
  cases hx <;> cases hy <;> (try exact h.elim)
  case bool.bool a b =>
    simp only [binV] at h
    split at h
    case h_2 => exact h.elim
    rename_i hu
    split at h
    · refine ⟨_, .bool (decide (a = b)), ?_, .bool _, h⟩
      rw [Sem.run_bind, guard_bool, Result.andThen_ok, run_eql_bool _ _ _ _ hu]
      cases a <;> cases b <;> rfl
    · refine ⟨_, .bool (decide (a ≠ b)), ?_, .bool _, h⟩
      rw [Sem.run_bind, guard_bool, Result.andThen_ok]
      have : (binOp .neq t (.bool a) (.bool b)).run P w = .ok (.bool (!(a == b))) w := by simp [go_sem, hu]
      rw [this]; cases a <;> cases b <;> rfl
    · exact h.elim
  case int.int ik a jk b =>
    rw [Sem.run_bind, guard_int, Result.andThen_ok]
    cases op
    case shl => exact ⟨_, _, by show (if b < 0 then _ else _ : Sem Value).run P w = _; rw [if_neg (by have := h.1; omega)]; rfl, .int _ _, h.2⟩
    case shr => exact ⟨_, _, by show (if b < 0 then _ else _ : Sem Value).run P w = _; rw [if_neg (by have := h.1; omega)]; rfl, .int _ _, h.2⟩
    all_goals
      simp only [binV] at h
      split at h
      · exact h.elim
      rename_i hk
      obtain rfl := kEq_eq hk
      first
        | exact h.elim
        | exact ⟨_, _, by show (if ik ≠ ik then _ else _ : Sem Value).run P w = _; rw [if_neg (by simp)]; rfl, .int _ _, h⟩
        | exact ⟨_, _, by show (if ik ≠ ik then _ else _ : Sem Value).run P w = _; rw [if_neg (by simp)]; rfl, .int _ _, inV_spec h⟩
        | (refine ⟨_, _, ?_, .int _ _, inV_spec h.2⟩; show (if ik ≠ ik then _ else _ : Sem Value).run P w = _; rw [if_neg (by simp)]; show (if b = 0 then _ else _ : Sem Value).run P w = _; rw [if_neg h.1]; rfl)
        | (refine ⟨_, _, ?_, .int _ _, h.2⟩; show (if ik ≠ ik then _ else _ : Sem Value).run P w = _; rw [if_neg (by simp)]; show (if b = 0 then _ else _ : Sem Value).run P w = _; rw [if_neg h.1]; rfl)
        | (refine ⟨_, _, ?_, .bool _, h⟩; show (if ik ≠ ik then _ else _ : Sem Value).run P w = _; rw [if_neg (by simp)]; simp [Op.intCmp]; done)
        | (refine ⟨_, _, ?_, .bool _, h⟩; show (if ik ≠ ik then _ else _ : Sem Value).run P w = _; rw [if_neg (by simp)]; simp [Op.intCmp]; rw [Bool.eq_iff_iff]; simp; done)
  case str.str a b =>
    rw [Sem.run_bind, guard_str, Result.andThen_ok]
    have e1 : ∀ op, (binOp op t (.string ⟨a.toArray⟩) (.string ⟨b.toArray⟩)).run P w = (Op.stringOp op ⟨a.toArray⟩ ⟨b.toArray⟩).run P w := fun op => by cases op <;> rfl
    rw [e1]
    cases op <;> simp only [binV] at h <;> try exact h.elim
    case add =>
      refine ⟨_, _, run_string_add_sum w _ _ ?_, ?_, h.2⟩
      · have := h.1; show a.toArray.size + b.toArray.size ≤ _; simp; omega
      · have : (⟨a.toArray⟩ ++ ⟨b.toArray⟩ : ByteArray) = ⟨(a ++ b).toArray⟩ := by
          apply ByteArray.ext; simp
        rw [this]; exact .str _
    all_goals
      refine ⟨_, _, ?_, .bool _, h⟩
      simp only [Op.stringOp, toList_mk, Sem.run_pure]
      try (congr 2 <;> (rw [Bool.eq_iff_iff]; simp))

theorem unV_sound {op : UnOp} {x : PV} {u : Value} {k : PV → Prop} (hx : VRel K w x u) (h : unV op x k) :
    ∃ pv r, (Op.unary op u).run P w = .ok r w ∧ VRel K w pv r ∧ k pv := by
  cases op <;> cases hx <;> first | exact h.elim | skip
  · exact ⟨_, _, rfl, .int _ _, inV_spec h⟩
  · exact ⟨_, _, rfl, .bool _, h⟩

theorem tyOk_spec {t : TypeId} (h : tyOk P t = true) : ∃ d i, P.underlying t = some d ∧ P.info? t = some i ∧ P.cellsOf t = i.size ∧ 0 < i.size := by
  unfold tyOk at h
  simp only [Bool.and_eq_true] at h
  obtain ⟨h1, h2⟩ := h
  obtain ⟨d, hd⟩ := Option.isSome_iff_exists.1 h1
  cases hi : P.info? t with
  | none => simp [Program.underlying, hi] at hd
  | some i =>
    have hc : P.cellsOf t = i.size := by simp [Program.cellsOf, hi]
    refine ⟨d, i, hd, rfl, hc, ?_⟩
    rw [← hc]; simpa using h2
theorem run_sizeOf {t : TypeId} (h : 0 < P.cellsOf t) : (sizeOf t).run P w = .ok (P.cellsOf t) w := by
  cases hi : P.info? t with
  | none => simp [Program.cellsOf, hi] at h
  | some i => simp [sizeOf, typeInfo, hi, Program.cellsOf]
theorem run_isAgg {t : TypeId} {d : TypeDesc} (h : P.underlying t = some d) : (isAgg t).run P w = .ok (isAggB P t) w := by
  simp only [isAgg, isAggB, Sem.run_bind, run_underlying h, Result.andThen_ok, h]
  cases d <;> rfl

theorem addr_add (b o n : Nat) : (⟨b, o, none⟩ : Addr).add n = ⟨b, o + n, none⟩ := by unfold Addr.add; split <;> simp_all

/-- What is read: a part of a row of cells. -/
theorem load_at {t : TypeId} {b o f : Nat} {e : List PV} (ht : tyOk P t = true) (hl : f + P.cellsOf t ≤ e.length)
    (hc : ∀ j, j < P.cellsOf t → ∃ u, w.cell? ⟨b, o + j, none⟩ = some u ∧ VRel K w (e.getD (f + j) .dead) u) :
    ∃ r, (loadVar t ⟨b, o, none⟩).run P w = .ok r w ∧ VRel K w (partV (isAggB P t) (P.cellsOf t) e f) r := by
  obtain ⟨d, i, hd, hi, hsz, hpos⟩ := tyOk_spec ht
  unfold loadVar
  rw [Sem.run_bind, run_isAgg hd, Result.andThen_ok]
  cases hag : isAggB P t with
  | false =>
    obtain ⟨u, hu, hv⟩ := hc 0 (by omega)
    refine ⟨u, ?_, by simpa [partV] using hv⟩
    simp only [Bool.false_eq_true, if_false, run_load]
    rw [Nat.add_zero] at hu
    rw [hu]
  | true =>
    have hg : ∃ g : Nat → Value, ∀ j, j < P.cellsOf t → w.cell? ⟨b, o + j, none⟩ = some (g j) ∧ VRel K w (e.getD (f + j) .dead) (g j) :=
      ⟨fun j => if hj : j < P.cellsOf t then (hc j hj).choose else undef, fun j hj => by simp only [hj, dif_pos]; exact (hc j hj).choose_spec⟩
    obtain ⟨g, hg⟩ := hg
    have hr := run_loadCells (P := P) w ⟨b, o, none⟩ (P.cellsOf t) g (fun j hj => by rw [addr_add]; exact (hg j hj).1)
    refine ⟨.agg ((List.range (P.cellsOf t)).map g).toArray, ?_, ?_⟩
    · simp only [if_true, Sem.run_bind, run_sizeOf (w := w) (show 0 < P.cellsOf t by omega), Result.andThen_ok, hr, Sem.run_pure]
    · refine .agg _ _ (by simp; omega) (fun j hj => ?_)
      have hj' : j < P.cellsOf t := by simp at hj; omega
      have h1 : ((e.drop f).take (P.cellsOf t)).getD j .dead = e.getD (f + j) .dead := by
        simp [List.getD_eq_getElem?_getD, hj']
      have h2 : ((List.range (P.cellsOf t)).map g).getD j undef = g j := by
        simp [List.getD_eq_getElem?_getD, hj']
      rw [h1, h2]; exact (hg j hj').2

theorem RowOk.cell {b sz : Nat} {es : List PV} {fz : Nat} (h : RowOk K w b sz es fz) {i j : Nat} (hi : i < es.length) (hj : j < sz) :
    ∃ u, w.cell? ⟨b, i * sz + j, none⟩ = some u ∧ VRel K w ((es.getD i .dead).flat.getD j .dead) u := by
  obtain ⟨cs, ty, h1, h2, h3⟩ := h.cells
  have hlt : i * sz + j < cs.size := by
    have : (i + 1) * sz ≤ es.length * sz := Nat.mul_le_mul_right _ hi
    rw [Nat.add_mul] at this; omega
  refine ⟨cs[i * sz + j], by simp [World.cell?, h1, hlt], ?_⟩
  have := h3 i j hi hj
  simpa [Array.getD, hlt] using this
theorem RowOk.flat {b sz : Nat} {es : List PV} {fz : Nat} (h : RowOk K w b sz es fz) {i : Nat} (hi : i < es.length) : (es.getD i .dead).flat.length = sz := by
  have : es.getD i .dead = es[i] := by simp [List.getD_eq_getElem?_getD, hi]
  rw [this]; exact h.hz _ (List.getElem_mem hi)

theorem Look.mem {σ r : Mem} {b : Nat} {c : Cont} (h : Look σ b c r) : ⟨b, c⟩ ∈ σ := by
  induction h with
  | here => exact List.mem_cons_self
  | there k σ b c r _ ih => exact List.mem_cons_of_mem _ ih
theorem Look.perm {σ r : Mem} {b : Nat} {c : Cont} (h : Look σ b c r) : σ.Perm (⟨b, c⟩ :: r) := by
  induction h with
  | here => exact .refl _
  | there k σ b c r _ ih => exact (ih.cons k).trans (.swap _ _ _)

theorem getD_some {es : List PV} {i : Nat} (h : i < es.length) : es[i]? = some (es.getD i .dead) := by
  simp [List.getD_eq_getElem?_getD, h]
theorem loadV_sound {t : TypeId} {x : PV} {u : Value} {σ : Mem} {k : PV → Prop} (hm : SatM K σ w) (hx : VRel K w x u) (h : loadV P t x σ k) :
    ∃ pv r, (Instr.loadAt t u).run P w = .ok r w ∧ VRel K w pv r ∧ k pv := by
  cases hx <;> (try exact h.elim)
  case bref b f =>
    obtain ⟨sz', es, fz, r, hlk, h⟩ := h
    have hro : RowOk K w b sz' es fz := hm.blk _ hlk.mem
    split at h
    case h_2 => exact h.elim
    rename_i e
    obtain ⟨hc, hk⟩ := chk_spec h
    simp only [Bool.and_eq_true, Nat.ble_eq] at hc
    have hfl := hro.hz e (by simp)
    obtain ⟨v, h1, h2⟩ := load_at (P := P) (K := K) (w := w) (t := t) (b := b) (o := f) (f := f) (e := e.flat) hc.2 hc.1
      (fun j hj => by
        have := hro.cell (i := 0) (j := f + j) (by simp) (by omega)
        simpa using this)
    exact ⟨_, _, by simp only [Instr.loadAt, Instr.sureAddr, Sem.run_bind, Sem.run_pure, Result.andThen_ok, h1], h2, hk⟩
  case ref b sz i f =>
    obtain ⟨sz', es, fz, r, hlk, h⟩ := h
    obtain ⟨hc, hi, hk⟩ := chk_spec h
    simp only [Bool.and_eq_true, Nat.ble_eq, Nat.beq_eq] at hc
    obtain ⟨⟨rfl, hf⟩, ht⟩ := hc
    have hro : RowOk K w b sz' es fz := hm.blk _ hlk.mem
    obtain ⟨v, h1, h2⟩ := load_at (P := P) (K := K) (w := w) (t := t) (b := b) (o := i * sz' + f) (f := f) (e := (es.getD i .dead).flat) ht (by rw [hro.flat hi]; exact hf)
      (fun j hj => by rw [Nat.add_assoc]; exact hro.cell hi (by omega))
    exact ⟨_, _, by simp only [Instr.loadAt, Instr.sureAddr, Sem.run_bind, Sem.run_pure, Result.andThen_ok, h1], h2, hk.all _ (getD_some hi)⟩
  case ip e f b o vs hk hv =>
    obtain ⟨hc, hkk⟩ := chk_spec h
    simp only [Bool.and_eq_true, Nat.ble_eq] at hc
    obtain ⟨hf, ht⟩ := hc
    obtain ⟨v, h1, h2⟩ := load_at (P := P) (K := K) (w := w) (t := t) (b := b) (o := o + f) (f := f) (e := e.flat) ht hf
      (fun j hj => ⟨vs (f + j), by rw [Nat.add_assoc]; exact (hk (f + j) (by omega)).2, hv (f + j) (by omega)⟩)
    exact ⟨_, _, by simp only [Instr.loadAt, Instr.sureAddr, Sem.run_bind, Sem.run_pure, Result.andThen_ok, h1], h2, hkk⟩

theorem fieldAddrV_sound {s : TypeId} {x : PV} {u : Value} {fld : Nat} {k : PV → Prop} (hx : VRel K w x u) (h : fieldAddrV P s x fld k) :
    ∃ pv r, (Instr.fieldAt s u fld).run P w = .ok r w ∧ VRel K w pv r ∧ k pv := by
  unfold fieldAddrV at h
  split at h
  case h_2 => exact h.elim
  rename_i f hf
  obtain ⟨fs, hs, hf⟩ : ∃ fs, P.underlying s = some (.struct fs) ∧ fs[fld]? = some f := by
    unfold fieldsOf at hf
    split at hf
    · exact ⟨_, by assumption, hf⟩
    · simp at hf
  have hrun : ∀ a : Addr, 0 < P.cellsOf f.type → (Instr.fieldAt s (.pointer (some a)) fld).run P w = .ok (.pointer (some (a.add f.offset))) w := fun a hp => by
    have hne : P.cellsOf f.type ≠ 0 := by omega
    simp [Instr.fieldAt, run_underlying hs, hf, Instr.sureAddr, fieldPlace, run_sizeOf (w := w) hp, hne]
  cases hx <;> (try exact h.elim)
  case bref b o =>
    obtain ⟨h1, h2⟩ := chk_spec h
    refine ⟨_, _, hrun _ (by simpa using h1), ?_, h2⟩
    rw [addr_add]; exact .bref _ _
  case tpt e n b hs =>
    obtain ⟨h1, h2⟩ := chk_spec h
    refine ⟨_, _, hrun _ (by simpa using h1), ?_, h2⟩
    rw [addr_add, Nat.zero_add]; exact .bref _ _
  case ref b sz i o =>
    obtain ⟨h1, h2⟩ := chk_spec h
    refine ⟨_, _, hrun _ (by simpa using h1), ?_, h2⟩
    rw [addr_add, Nat.add_assoc]; exact .ref _ _ _ _
  case ip e o b o' vs hk hv =>
    obtain ⟨h1, h2⟩ := chk_spec h
    refine ⟨_, _, hrun _ (by simpa using h1), ?_, h2⟩
    rw [addr_add, Nat.add_assoc]; exact .ip _ _ _ _ vs hk hv

theorem part_sound {t : TypeId} {cs : List PV} {vs : List Value} {f : Nat} (ht : tyOk P t = true) (hl : cs.length = vs.length) (hf : f + P.cellsOf t ≤ cs.length)
    (h : ∀ i, i < cs.length → VRel K w (cs.getD i .dead) (vs.getD i undef)) :
    ∃ r, (part t vs.toArray f).run P w = .ok r w ∧ VRel K w (partV (isAggB P t) (P.cellsOf t) cs f) r := by
  obtain ⟨d, i, hd, hi, hsz, hpos⟩ := tyOk_spec ht
  unfold part
  rw [Sem.run_bind, run_isAgg hd, Result.andThen_ok]
  cases hag : isAggB P t with
  | false =>
    have hlt : f < vs.length := by omega
    refine ⟨vs.getD f undef, ?_, h f (by omega)⟩
    simp [hlt]
  | true =>
    refine ⟨.agg ((vs.drop f).take (P.cellsOf t)).toArray, ?_, .agg _ _ (by simp; omega) (fun j hj => ?_)⟩
    · simp only [if_true, Sem.run_bind, run_sizeOf (w := w) (show 0 < P.cellsOf t by omega), Result.andThen_ok, Sem.run_pure]
      congr 2
      simp
    · have hj' : j < P.cellsOf t := by simp at hj; omega
      have h1 : ((cs.drop f).take (P.cellsOf t)).getD j .dead = cs.getD (f + j) .dead := by simp [List.getD_eq_getElem?_getD, hj']
      have h2 : ((vs.drop f).take (P.cellsOf t)).getD j undef = vs.getD (f + j) undef := by simp [List.getD_eq_getElem?_getD, hj']
      rw [h1, h2]; exact h _ (by omega)

theorem fieldV_sound {s : TypeId} {x : PV} {u : Value} {fld : Nat} {k : PV → Prop} (hx : VRel K w x u) (h : fieldV P s x fld k) :
    ∃ pv r, (Instr.field s u fld).run P w = .ok r w ∧ VRel K w pv r ∧ k pv := by
  unfold fieldV at h
  split at h
  case h_2 => exact h.elim
  rename_i f hf
  obtain ⟨fs, hs, hf⟩ : ∃ fs, P.underlying s = some (.struct fs) ∧ fs[fld]? = some f := by
    unfold fieldsOf at hf
    split at hf
    · exact ⟨_, by assumption, hf⟩
    · simp at hf
  cases hx <;> (try exact h.elim)
  case agg cs vs hl hv =>
    obtain ⟨hc, hk⟩ := chk_spec h
    simp only [Bool.and_eq_true, Nat.ble_eq] at hc
    obtain ⟨r, h1, h2⟩ := part_sound (P := P) hc.2 hl hc.1 hv
    exact ⟨_, r, by simp [Instr.field, run_underlying hs, hf, asAgg, h1], h2, hk⟩

theorem indexAddrV_sound {t : TypeId} {x i : PV} {u v : Value} {k : PV → Prop} (hx : VRel K w x u) (hi : VRel K w i v) (h : indexAddrV P t x i k) :
    ∃ pv r, (Instr.indexAt t u v).run P w = .ok r w ∧ VRel K w pv r ∧ k pv := by
  cases hi <;> (try exact h.elim)
  case int ik n =>
  simp only [indexAddrV] at h
  split at h
  · rename_i e he
    cases hx <;> (try exact h.elim)
    case sl0 sz a cap => obtain ⟨_, ⟨h1, h2⟩, _⟩ := chk_spec h; simp at h2; omega
    case sl sz es b o cap hcap vs hz hk hv =>
      obtain ⟨hc, ⟨h1, h2⟩, hkk⟩ := chk_spec h
      simp only [Bool.and_eq_true, Nat.beq_eq, Nat.blt_eq] at hc
      obtain ⟨h3, h4⟩ := hc
      have hn : n.toNat < es.length := by omega
      refine ⟨_, .pointer (some ⟨b, o + n.toNat * sz, none⟩), ?_, ?_, (hkk.all n.toNat (by omega)).all _ (getD_some hn)⟩
      · have hs : (sizeOf e).run P w = .ok sz w := by rw [← h3]; exact run_sizeOf (by omega)
        simp [Instr.indexAt, run_underlying he, asIntOf, h1, h2, hs, addr_add]
      · have hfl : (es.getD n.toNat .dead).flat.length = sz := by
          have : es.getD n.toNat .dead = es[n.toNat] := by simp [List.getD_eq_getElem?_getD, hn]
          rw [this]; exact hz _ (List.getElem_mem hn)
        have := VRel.ip (K := K) (w := w) (es.getD n.toNat .dead) 0 b (o + n.toNat * sz) (vs n.toNat)
          (fun j hj => by rw [hfl] at hj; exact hk _ _ hn hj) (fun j hj => by rw [hfl] at hj; exact hv _ _ hn hj)
        simpa using this
    case rsl b sz j m o cap ho hc hs =>
      obtain ⟨hc', ⟨h1, h2⟩, hkk⟩ := chk_spec h
      simp only [Bool.and_eq_true, Nat.beq_eq, Nat.blt_eq] at hc'
      obtain ⟨h3, h4⟩ := hc'
      refine ⟨_, .pointer (some ⟨b, o + n.toNat * sz, none⟩), ?_, ?_, hkk.all n.toNat (by omega)⟩
      · have hs : (sizeOf e).run P w = .ok sz w := by rw [← h3]; exact run_sizeOf (by omega)
        simp [Instr.indexAt, run_underlying he, asIntOf, h1, h2, hs, addr_add]
      · have ho' := ho (.inl (by omega))
        rw [ho', ← Nat.add_mul]
        have := VRel.ref (K := K) (w := w) b sz (j + n.toNat) 0
        simpa using this
  · rename_i m e he
    cases hx <;> (try exact h.elim)
    case bref b f =>
      obtain ⟨h3, ⟨h1, h2⟩, hkk⟩ := chk_spec h
      simp only [Nat.blt_eq] at h3
      refine ⟨_, .pointer (some ⟨b, f + n.toNat * P.cellsOf e, none⟩), by simp [Instr.indexAt, run_underlying he, asIntOf, Instr.sureAddr, h1, h2, run_sizeOf (w := w) h3, addr_add], .bref _ _, hkk⟩
    case ref b sz j f =>
      obtain ⟨h3, ⟨h1, h2⟩, hkk⟩ := chk_spec h
      simp only [Nat.blt_eq] at h3
      refine ⟨_, _, by simp [Instr.indexAt, run_underlying he, asIntOf, Instr.sureAddr, h1, h2, run_sizeOf (w := w) h3, addr_add]; rfl, ?_, hkk⟩
      rw [Nat.add_assoc]; exact .ref _ _ _ _
    case ip e' f b o vs hk hv =>
      obtain ⟨h3, ⟨h1, h2⟩, hkk⟩ := chk_spec h
      simp only [Nat.blt_eq] at h3
      refine ⟨_, _, by simp [Instr.indexAt, run_underlying he, asIntOf, Instr.sureAddr, h1, h2, run_sizeOf (w := w) h3, addr_add]; rfl, ?_, hkk⟩
      rw [Nat.add_assoc]; exact .ip _ _ _ _ vs hk hv
  · exact h.elim

theorem indexV_sound {t : TypeId} {x i : PV} {u v : Value} {k : PV → Prop} (hx : VRel K w x u) (hi : VRel K w i v) (h : indexV P t x i k) :
    ∃ pv r, (Instr.index t u v).run P w = .ok r w ∧ VRel K w pv r ∧ k pv := by
  cases hi <;> (try exact h.elim)
  case int ik n =>
  simp only [indexV] at h
  cases hx <;> (try exact h.elim)
  case str s =>
    simp only at h
    split at h
    case h_2 => exact h.elim
    rename_i he
    obtain ⟨⟨h1, h2⟩, hk⟩ := h
    have hn : n.toNat < s.length := by omega
    refine ⟨_, .int .u8 (s.getD n.toNat 0).toNat, ?_, .int _ _, (hk.all n.toNat (by omega)).all _ (by simp [List.getD_eq_getElem?_getD, hn])⟩
    have hg : (⟨s.toArray⟩ : ByteArray)[n.toNat]? = some (s.getD n.toNat 0) := by
      have : n.toNat < (⟨s.toArray⟩ : ByteArray).size := by show n.toNat < s.toArray.size; simpa using hn
      rw [getElem?_pos (⟨s.toArray⟩ : ByteArray) n.toNat this]
      show some (s.toArray[n.toNat]'_) = _
      simp [List.getD_eq_getElem?_getD, hn]
    simp [Instr.index, run_underlying he, asIntOf, h1, hg]
  case agg cs vs hl hv =>
    simp only at h
    split at h
    case h_2 => exact h.elim
    rename_i m e he
    obtain ⟨hc, ⟨h1, h2⟩, hk⟩ := chk_spec h
    simp only [Bool.and_eq_true, Nat.ble_eq] at hc
    obtain ⟨h3, h4⟩ := hc
    have hlt : n.toNat < m := by omega
    have hbd : n.toNat * P.cellsOf e + P.cellsOf e ≤ cs.length := by
      have : (n.toNat + 1) * P.cellsOf e ≤ m * P.cellsOf e := Nat.mul_le_mul_right _ hlt
      rw [Nat.add_mul] at this; omega
    obtain ⟨r, h5, h6⟩ := part_sound (P := P) h4 hl hbd hv
    obtain ⟨_, _, _, _, hsz, hpos⟩ := tyOk_spec h4
    exact ⟨_, r, by simp [Instr.index, run_underlying he, asIntOf, h1, h2, run_sizeOf (w := w) (show 0 < P.cellsOf e by omega), h5], h6, hk⟩
end Go.Eng
