/- The engine, part 8: the conditions are enough, operation by operation, and for the whole code. -/
import Derived.Test.YtnnehgmibpfibaaDoorEng7
namespace Go.Eng
open Go

variable {P : Program} {K : Kn} {w : World}

theorem obj_shape {b b' : Nat} {o o' : Obj} (hg : w.heap[b]? = some o) (ho : ∀ c t f, o ≠ .cells c t f) (_ : o' = o') {x : TypeId × Nat} (h : w.shape? b' = some x) : ({ w with heap := w.heap.setIfInBounds b o' } : World).shape? b' = some x := by
  by_cases e : b' = b
  · subst e
    unfold World.shape? at h
    rw [hg] at h
    cases o <;> first | (cases h; done) | exact absurd rfl (ho _ _ _)
  · unfold World.shape? at h ⊢
    simp only [Array.getElem?_setIfInBounds]
    rw [if_neg (Ne.symm e)]; exact h
theorem obj_cell {b b' i : Nat} {o' : Obj} (e : b' ≠ b) : ({ w with heap := w.heap.setIfInBounds b o' } : World).cell? ⟨b', i, none⟩ = w.cell? ⟨b', i, none⟩ := by
  unfold World.cell?
  simp only [Array.getElem?_setIfInBounds]
  rw [if_neg (Ne.symm e)]

theorem nextV_sound {σ : Mem} {x : PV} {u : Value} {str : Bool} {ty : TypeId} {k : PV → Mem → Prop} (hm : SatM K σ w) (hx : VRel K w x u) (h : nextV x str σ k) :
    ∃ pv r σ' w', (Instr.next u str ty).run P w = .ok r w' ∧ k pv σ' ∧ VRel K w' pv r ∧ SatM K σ' w' ∧ Ext σ K w σ' K w' := by
  unfold nextV at h
  split at h
  case h_2 => exact h.elim
  rename_i b
  obtain ⟨s, pos, r, hl, h1, h2⟩ := h
  cases hx
  obtain ⟨g1, g2⟩ : w.heap[b]? = some (.stringIter ⟨s.toArray⟩ pos) ∧ ∀ o, ¬ K b o := hm.blk _ hl.mem
  have hsz : (⟨s.toArray⟩ : ByteArray).size = s.length := by show s.toArray.size = _; simp
  by_cases hp : pos < s.length
  · have hlt : b < w.heap.size := (Array.getElem?_eq_some_iff.1 g1).1
    have hp' := hm.perm hl.perm
    have hnd := hp'.nodup
    rw [List.map_cons, List.nodup_cons] at hnd
    refine ⟨_, .tuple #[.bool true, .int .i64 pos, .int .i32 (Utf8.decode ⟨s.toArray⟩ pos).1], _, { w with heap := w.heap.setIfInBounds b (.stringIter ⟨s.toArray⟩ (pos + (Utf8.decode ⟨s.toArray⟩ pos).2)) }, ?_, h1 hp, ?_, ⟨fun b' o h => by simpa using hm.kin b' o h, ?_, fun k hk => ?_⟩, ?_⟩
    · have e1 : (getObj b).run P w = .ok (.stringIter ⟨s.toArray⟩ pos) w := by simp [getObj, Sem.run, g1]
      have e2 : ∀ o', (setObj b o').run P w = .ok () { w with heap := w.heap.setIfInBounds b o' } := fun o' => by simp [setObj, Sem.run, g1]
      simp [Instr.next, e1, e2, hsz, hp, goInt]
    · exact .tup _ _ rfl (fun i hi => by
        match i, hi with
        | 0, _ => exact .bool _
        | 1, _ => exact .int _ _
        | 2, _ => exact .int _ _)
    · rw [List.map_cons, List.nodup_cons]; exact hnd
    · rcases List.mem_cons.1 hk with rfl | hk
      · exact ⟨by simp [hlt], g2⟩
      · have hne : k.b ≠ b := fun e => hnd.1 (List.mem_map.2 ⟨k, hk, e⟩)
        refine (hp'.blk k (List.mem_cons_of_mem _ hk)).move ?_ (fun _ h => h) (fun b' o h => ⟨h, obj_cell fun e => g2 o (e ▸ h)⟩) (fun b' x h => obj_shape g1 (fun _ _ _ => by simp) rfl h)
        simp [Ne.symm hne]
    · refine ⟨rfl, rfl, rfl, by simp, fun b' x h => obj_shape g1 (fun _ _ _ => by simp) rfl h, fun b' hb hn => ?_, fun b' o h => ⟨h, obj_cell fun e => g2 o (e ▸ h)⟩, fun k hk => .inl ?_, fun _ _ h => .inl h⟩
      · have : b' ≠ b := fun e => hn _ hl.mem e.symm
        simp [Ne.symm this]
      · rcases List.mem_cons.1 hk with rfl | hk
        · exact ⟨_, hl.mem, rfl⟩
        · exact ⟨k, hl.perm.mem_iff.2 (List.mem_cons_of_mem _ hk), rfl⟩
  · refine ⟨_, .tuple #[.bool false], σ, w, ?_, h2 hp, .tup _ _ rfl (fun i hi => by
      match i, hi with
      | 0, _ => exact .bool _), hm, Ext.refl _ _ _⟩
    have e1 : (getObj b).run P w = .ok (.stringIter ⟨s.toArray⟩ pos) w := by simp [getObj, Sem.run, g1]
    simp [Instr.next, e1, hsz, hp]

theorem minInts_sound : ∀ (ps : List PV) (vs : List Value) (ik : IntKind) (x : Int) (r : PV), ps.length = vs.length → (∀ i, i < ps.length → VRel K w (ps.getD i .dead) (vs.getD i undef)) → minInts ps ik x = some r →
    ∃ v, (vs.foldlM Builtin.min2 (.int ik x) : Sem Value).run P w = .ok v w ∧ VRel K w r v
  | [], [], ik, x, r, _, _, h => by simp only [minInts, Option.some.injEq] at h; subst h; exact ⟨_, rfl, .int _ _⟩
  | p :: ps, v :: vs, ik, x, r, hl, hr, h => by
    have h0 := hr 0 (by simp)
    simp only [List.getD_cons_zero] at h0
    cases p <;> simp only [minInts] at h <;> try (cases h; done)
    rename_i k' y
    cases h0
    obtain ⟨v, h1, h2⟩ := minInts_sound ps vs ik _ r (by simpa using hl) (fun i hi => by have := hr (i + 1) (by simpa using hi); simpa using this) h
    exact ⟨v, by simpa [List.foldlM_cons, Builtin.min2] using h1, h2⟩
  | [], _ :: _, _, _, _, hl, _, _ => by simp at hl
  | _ :: _, [], _, _, _, hl, _, _ => by simp at hl
theorem maxInts_sound : ∀ (ps : List PV) (vs : List Value) (ik : IntKind) (x : Int) (r : PV), ps.length = vs.length → (∀ i, i < ps.length → VRel K w (ps.getD i .dead) (vs.getD i undef)) → maxInts ps ik x = some r →
    ∃ v, (vs.foldlM Builtin.max2 (.int ik x) : Sem Value).run P w = .ok v w ∧ VRel K w r v
  | [], [], ik, x, r, _, _, h => by simp only [maxInts, Option.some.injEq] at h; subst h; exact ⟨_, rfl, .int _ _⟩
  | p :: ps, v :: vs, ik, x, r, hl, hr, h => by
    have h0 := hr 0 (by simp)
    simp only [List.getD_cons_zero] at h0
    cases p <;> simp only [maxInts] at h <;> try (cases h; done)
    rename_i k' y
    cases h0
    obtain ⟨v, h1, h2⟩ := maxInts_sound ps vs ik _ r (by simpa using hl) (fun i hi => by have := hr (i + 1) (by simpa using hi); simpa using this) h
    exact ⟨v, by simpa [List.foldlM_cons, Builtin.max2] using h1, h2⟩
  | [], _ :: _, _, _, _, hl, _, _ => by simp at hl
  | _ :: _, [], _, _, _, hl, _, _ => by simp at hl

/-- What an operation's semantics comes to. -/
def Does (P : Program) (K : Kn) (w : World) (σ : Mem) (s : Sem Value) (k : PV → Mem → Prop) : Prop :=
  ∃ pv r σ' K' w', s.run P w = .ok r w' ∧ k pv σ' ∧ VRel K' w' pv r ∧ SatM K' σ' w' ∧ Ext σ K w σ' K' w'
theorem Does.of_pure {σ : Mem} {s : Sem Value} {k : PV → Mem → Prop} (hm : SatM K σ w) (h : ∃ pv r, s.run P w = .ok r w ∧ VRel K w pv r ∧ k pv σ) : Does P K w σ s k :=
  let ⟨pv, r, h1, h2, h3⟩ := h
  ⟨pv, r, σ, K, w, h1, h3, h2, hm, Ext.refl _ _ _⟩
theorem Does.of_mem {σ : Mem} {s : Sem Value} {k : PV → Mem → Prop} (h : ∃ pv r σ' w', s.run P w = .ok r w' ∧ k pv σ' ∧ VRel K w' pv r ∧ SatM K σ' w' ∧ Ext σ K w σ' K w') : Does P K w σ s k :=
  let ⟨pv, r, σ', w', h1, h2, h3, h4, h5⟩ := h
  ⟨pv, r, σ', K, w', h1, h2, h3, h4, h5⟩

theorem args_rel {env : Env} {a : Act} : ∀ (xs : List Operand), (∀ x ∈ xs, VRel K w (ev env x) (a.eval x)) → LRel K w (xs.map (ev env)) (xs.map a.eval) := by
  intro xs h
  refine ⟨by simp, fun i hi => ?_⟩
  simp only [List.length_map] at hi
  have e1 : (xs.map (ev env)).getD i .dead = ev env xs[i] := by simp [List.getD_eq_getElem?_getD, hi]
  have e2 : (xs.map a.eval).getD i undef = a.eval xs[i] := by simp [List.getD_eq_getElem?_getD, hi]
  rw [e1, e2]; exact h _ (List.getElem_mem hi)
theorem LRel.append {ps qs : List PV} {vs us : List Value} (h : LRel K w ps vs) (g : LRel K w qs us) : LRel K w (ps ++ qs) (vs ++ us) := by
  refine ⟨by simp [h.1, g.1], fun i hi => ?_⟩
  simp only [List.length_append] at hi
  by_cases c : i < ps.length
  · have := h.2 i c
    have c' : i < vs.length := by rw [← h.1]; exact c
    simpa [List.getD_eq_getElem?_getD, List.getElem?_append, c, c'] using this
  · have := g.2 (i - ps.length) (by omega)
    have c' : ¬ i < vs.length := by rw [← h.1]; exact c
    simpa [List.getD_eq_getElem?_getD, List.getElem?_append, c, c', h.1] using this

theorem builtinV_sound {σ : Mem} {b : Builtin} {ts : Array TypeId} {ty : TypeId} {cs : Array Bool} {ps : List PV} {vs : List Value} {k : PV → Mem → Prop} (hm : SatM K σ w) (hL : LRel K w ps vs)
    (h : builtinV P b ts ps σ k) : ∃ s, builtin b ts ty cs vs.toArray = (do pure (.value (← s))) ∧ Does P K w σ s k := by
  obtain ⟨hl, hr⟩ := hL
  unfold builtinV at h
  split at h
  · -- len
    match vs, hl with
    | [v], _ =>
    have h0 := hr 0 (by simp)
    simp only [List.getD_cons_zero] at h0
    refine ⟨_, rfl, Does.of_pure hm ?_⟩
    rename_i x
    split at h
    case h_2 => exact h.elim
    rename_i t ht
    split at h
    · rename_i n e he
      exact ⟨_, _, by simp [Builtin.len_, ht, run_underlying he]; rfl, .int _ _, h⟩
    · rename_i he
      split at h
      case h_2 => exact h.elim
      cases h0
      rename_i s
      refine ⟨_, .int .i64 s.length, ?_, .int _ _, h⟩
      have hsz : (⟨s.toArray⟩ : ByteArray).size = s.length := by show s.toArray.size = _; simp
      simp [Builtin.len_, ht, run_underlying he, goInt, hsz]
    · rename_i e he
      split at h
      · cases h0 <;> exact ⟨_, .int .i64 _, by simp [Builtin.len_, ht, run_underlying he, goInt], .int _ _, h⟩
      · cases h0; exact ⟨_, .int .i64 _, by simp [Builtin.len_, ht, run_underlying he, goInt], .int _ _, h⟩
      · cases h0; exact ⟨_, .int .i64 _, by simp [Builtin.len_, ht, run_underlying he, goInt], .int _ _, h⟩
      · exact h.elim
    · exact h.elim
  · -- min
    rename_i ik x rest
    split at h
    case h_2 => exact h.elim
    rename_i r hmi
    match vs, hl with
    | v :: vs, hl =>
    have h0 := hr 0 (by simp)
    simp only [List.getD_cons_zero] at h0
    cases h0
    obtain ⟨v, h1, h2⟩ := minInts_sound (P := P) rest vs ik x r (by simpa using hl) (fun i hi => by have := hr (i + 1) (by simpa using hi); simpa using this) hmi
    exact ⟨_, rfl, Does.of_pure hm ⟨_, v, by simpa [Builtin.min_] using h1, h2, h⟩⟩
  · rename_i ik x rest
    split at h
    case h_2 => exact h.elim
    rename_i r hmi
    match vs, hl with
    | v :: vs, hl =>
    have h0 := hr 0 (by simp)
    simp only [List.getD_cons_zero] at h0
    cases h0
    obtain ⟨v, h1, h2⟩ := maxInts_sound (P := P) rest vs ik x r (by simpa using hl) (fun i hi => by have := hr (i + 1) (by simpa using hi); simpa using this) hmi
    exact ⟨_, rfl, Does.of_pure hm ⟨_, v, by simpa [Builtin.max_] using h1, h2, h⟩⟩
  · -- append
    match vs, hl with
    | [u, v], _ =>
    have h0 := hr 0 (by simp)
    have h1 := hr 1 (by simp)
    simp only [List.getD_cons_zero, List.getD_cons_succ] at h0 h1
    split at h
    case h_2 => exact h.elim
    rename_i t t2 e1 e2
    split at h
    case h_2 => exact h.elim
    rename_i e3
    exact ⟨_, rfl, Does.of_mem (appendV_sound e1 e2 e3 hm h0 h1 h)⟩
  · match vs, hl with
    | [u, v], _ =>
    have h0 := hr 0 (by simp)
    have h1 := hr 1 (by simp)
    simp only [List.getD_cons_zero, List.getD_cons_succ] at h0 h1
    split at h
    case h_2 => exact h.elim
    rename_i t e1
    exact ⟨_, rfl, Does.of_mem (copyV_sound e1 hm h0 h1 h)⟩
  · match vs, hl with
    | [u], _ =>
    have h0 := hr 0 (by simp)
    simp only [List.getD_cons_zero] at h0
    split at h
    case h_2 => exact h.elim
    rename_i t e1
    exact ⟨_, rfl, Does.of_mem (clearV_sound e1 hm h0 h)⟩
  · exact h.elim

theorem ORel_of {env : Env} {a : Act} (x : Option Operand) (h : ∀ y, x = some y → VRel K w (ev env y) (a.eval y)) : ORel K w (evO env x) (x.map a.eval) := by
  cases x with
  | none => trivial
  | some y => exact h y rfl

theorem wp_of_does {o : Oper} {a : Act} {σ : Mem} {k : PV → Mem → Prop} {next : Act → World → Prop} {Q : Exit → Act → World → Prop} {s : Sem Value}
    (he : execOp a.eval o = (do pure (.value (← s)) : Sem Next)) (hd : Does P K w σ s k)
    (hn : ∀ v pv σ' K' w', k pv σ' → VRel K' w' pv v → SatM K' σ' w' → Ext σ K w σ' K' w' → next (a.put o.dst v) w') : o.wp P a w next Q := by
  obtain ⟨pv, r, σ', K', w', h1, h2, h3, h4, h5⟩ := hd
  unfold Oper.wp
  rw [he, Sem.run_bind, h1, Result.andThen_ok, Sem.run_pure, Oper.upon_value]
  exact hn r pv σ' K' w' h2 h3 h4 h5

theorem buildSliceV_sound {σ : Mem} {t : TypeId} {n : Nat} {ps : List (Nat × PV)} {us : List (Nat × Value)} {k : PV → Mem → Prop} (hm : SatM K σ w) (hl : ps.length = us.length)
    (hr : ∀ i, i < ps.length → (ps.getD i (0, .dead)).1 = (us.getD i (0, undef)).1 ∧ VRel K w (ps.getD i (0, .dead)).2 (us.getD i (0, undef)).2)
    (h : buildSliceV P t n ps fun sz es => k (.sl sz es) σ ∨ New1 σ fun b => k (.rsl b sz 0 es.length) (⟨b, .row sz es 0⟩ :: σ)) : Does P K w σ (Instr.buildSlice t n us.toArray) k := by
  obtain ⟨sz, es, cs, e, hk, hp, hz, hLr, hlen, hr'⟩ := buildSlice_cells (P := P) hl hr h
  have hcs : es.length * sz = cs.size := by rw [← flats_length hz, hLr.1]; simp
  have hnew := new_row hm e sz es 0 (Nat.zero_le _) cs hz (by omega) (fun m hmm => by
    have := hLr.2 m (by rw [flats_length hz]; exact hmm)
    rwa [getD_toList] at this)
  have hrel : VRel K (w.alloc (.cells cs e)) (.rsl w.heap.size sz 0 es.length) (.slice (some ⟨w.heap.size, 0, none⟩) n n) := by
    rw [hlen]
    exact VRel.rsl (w := w.alloc _) w.heap.size _ 0 _ 0 _ (fun _ => by simp) (Nat.le_refl _) ⟨e, _, shape_new e _, by rw [← hcs, hlen]; omega⟩
  rcases hk with hk | hk
  · obtain ⟨K', g1, g2, g3⟩ := freeze_row hnew
    have hv := g3 0 es.length _ (by omega) hrel
    simp only [List.drop_zero, List.take_length] at hv
    exact ⟨_, _, σ, K', _, hr', hk, hv, g1.drop (List.sublist_cons_self _ _), ((ext_alloc hm _ _).trans g2).trans (Ext.drop (List.sublist_cons_self _ _))⟩
  · exact ⟨_, _, _, K, _, hr', hk.all w.heap.size (fresh_new hm), hrel, hnew, ext_alloc hm _ _⟩

theorem Pre.ext {W : World} {σ σ' : Mem} {K' : Kn} {w' : World} (h : Pre W σ w) (x : Ext σ K w σ' K' w') : Pre W σ' w' where
  size := Nat.le_trans h.size x.size
  base b hb := (x.keep b (Nat.lt_of_lt_of_le hb h.size) (fun k hk e => by have := h.own k hk; omega)).trans (h.base b hb)
  own k hk := by
    rcases x.own k hk with ⟨k0, h0, h1⟩ | h1
    · have := h.own k0 h0; omega
    · exact Nat.le_trans h.size h1

theorem pickV_sound {t : Bool} {a b : PV} {u v : Value} {k : PV → Prop} (hx : VRel K w a u) (hy : VRel K w b v) (h : pickV t a b k) : ∃ pv, VRel K w pv (if t then u else v) ∧ k pv := by
  unfold pickV at h
  split at h
  · split at h <;> try exact h.elim
    split at h <;> try exact h.elim
    obtain ⟨hn, h⟩ := h
    split at h
    · refine ⟨_, ?_, h⟩
      cases t
      · simpa using hy
      · cases hx with
        | opt _ _ _ h1 => simpa using h1 (hn rfl)
    · refine ⟨_, ?_, h⟩
      cases t
      · simpa using hy
      · cases hx with
        | opt _ _ _ h1 => simpa using h1 (hn rfl)
  · split at h
    · split at h <;> try exact h.elim
      split at h <;> try exact h.elim
      obtain ⟨hn, h⟩ := h
      split at h
      · refine ⟨_, ?_, h⟩
        cases t
        · cases hy with
          | opt _ _ _ h1 => simpa using h1 (hn rfl)
        · simpa using hx
      · refine ⟨_, ?_, h⟩
        cases t
        · cases hy with
          | opt _ _ _ h1 => simpa using h1 (hn rfl)
        · simpa using hx
    · refine ⟨_, ?_, h⟩
      cases t
      · exact hy
      · exact hx
theorem opV_sound {W : World} {o : Oper} {env : Env} {a : Act} {σ : Mem} {k : PV → Mem → Prop} {next : Act → World → Prop} {Q : Exit → Act → World → Prop} (hm : SatM K σ w) (hp : Pre W σ w)
    (he : ∀ x ∈ o.op.operands, VRel K w (ev env x) (a.eval x)) (h : opV P W o.op env σ k)
    (hn : ∀ v pv σ' K' w', k pv σ' → VRel K' w' pv v → SatM K' σ' w' → Ext σ K w σ' K' w' → next (a.put o.dst v) w') : o.wp P a w next Q := by
  obtain ⟨dst, op, type, pos, after, guard⟩ := o
  simp only at h he
  cases op <;> simp only [opV] at h <;> simp only [Op.operands] at he <;> try (exact h.elim)
  case move x =>
    refine wp_of_does (s := pure (a.eval x)) rfl (Does.of_pure hm ⟨_, _, rfl, he x (by simp), h⟩) hn
  case assign x =>
    refine wp_of_does (s := pure (a.eval x)) rfl (Does.of_pure hm ⟨_, _, rfl, he x (by simp), h⟩) hn
  case pick c x y =>
    split at h
    case h_2 => exact h.elim
    rename_i t hc
    have h0 := he c (by simp)
    rw [hc] at h0
    obtain ⟨pvx, hpvx, hkx⟩ := pickV_sound (he x (by simp)) (he y (by simp)) h
    refine wp_of_does (s := pure (if t then a.eval x else a.eval y)) ?_ (Does.of_pure hm ⟨_, _, rfl, hpvx, hkx⟩) hn
    generalize hv : a.eval c = v at h0
    cases h0
    simp [execOp, hv, asBool]
  case alloc e =>
    have hc : cellsB (zeroV P e) = true := by
      have := (chk_spec h).1
      simp only [Bool.and_eq_true] at this
      exact this.2
    obtain ⟨i, z, hi, hz, hzv⟩ := zeroV_rel hc
    obtain ⟨pv, r, σ', w', h1, h2, h3, h4, h5⟩ := newV_sound (P := P) (e := e) hm (hzv ▸ ofV_rel z : VRel K w (zeroV P e) z) h
    exact wp_of_does (s := Instr.alloc e true (.tuple #[])) rfl ⟨pv, .pointer (some r), σ', K, w', by simp [Instr.alloc, run_zeroValue hi hz, h1], h2, h3, h4, h5⟩ hn
  case box e x =>
    obtain ⟨pv, r, σ', w', h1, h2, h3, h4, h5⟩ := newV_sound (P := P) (e := e) hm (he x (by simp)) h
    exact wp_of_does (s := Instr.box e (a.eval x)) rfl ⟨pv, .pointer (some r), σ', K, w', by simp [Instr.box, h1], h2, h3, h4, h5⟩ hn
  case build t ps =>
    have hL : ∀ i, i < (ps.toList.map fun p => (p.1, ev env p.2)).length → ((ps.toList.map fun p => (p.1, ev env p.2)).getD i (0, .dead)).1 = ((ps.toList.map fun p => (p.1, a.eval p.2)).getD i (0, undef)).1 ∧
        VRel K w ((ps.toList.map fun p => (p.1, ev env p.2)).getD i (0, .dead)).2 ((ps.toList.map fun p => (p.1, a.eval p.2)).getD i (0, undef)).2 := fun i hi => by
      simp only [List.length_map] at hi
      simp only [List.getD_eq_getElem?_getD, List.getElem?_map, List.getElem?_eq_getElem hi, Option.map_some, Option.getD_some, true_and]
      exact he _ (by rw [List.mem_toArray, List.mem_map]; exact ⟨_, List.getElem_mem hi, rfl⟩)
    obtain ⟨pv, r, h1, h2, h3⟩ := buildV_sound (P := P) (by simp) hL h
    refine wp_of_does (s := Instr.build t (ps.map fun (i, x) => (i, a.eval x))) rfl (Does.of_pure hm ⟨pv, r, ?_, h2, h3⟩) hn
    rw [← h1]; congr 2; apply Array.ext'; simp
  case buildSlice t n ps =>
    have hL : ∀ i, i < (ps.toList.map fun p => (p.1, ev env p.2)).length → ((ps.toList.map fun p => (p.1, ev env p.2)).getD i (0, .dead)).1 = ((ps.toList.map fun p => (p.1, a.eval p.2)).getD i (0, undef)).1 ∧
        VRel K w ((ps.toList.map fun p => (p.1, ev env p.2)).getD i (0, .dead)).2 ((ps.toList.map fun p => (p.1, a.eval p.2)).getD i (0, undef)).2 := fun i hi => by
      simp only [List.length_map] at hi
      simp only [List.getD_eq_getElem?_getD, List.getElem?_map, List.getElem?_eq_getElem hi, Option.map_some, Option.getD_some, true_and]
      exact he _ (by rw [List.mem_toArray, List.mem_map]; exact ⟨_, List.getElem_mem hi, rfl⟩)
    have hd : Does P K w σ (Instr.buildSlice t n (ps.toList.map fun p => (p.1, a.eval p.2)).toArray) k := buildSliceV_sound (P := P) (k := k) hm (by simp) hL h
    have e : (ps.toList.map fun p => (p.1, a.eval p.2)).toArray = ps.map fun p => (p.1, a.eval p.2) := by apply Array.ext'; simp
    refine wp_of_does ?_ hd hn
    rw [e]; rfl
  case load t x =>
    exact wp_of_does (s := Instr.loadAt t (a.eval x)) rfl (Does.of_pure hm (loadV_sound hm (he x (by simp)) h)) hn
  case store t x v =>
    obtain ⟨σ', w', h1, h2, h3, h4⟩ := storeV_sound (P := P) hm (he x (by simp)) (he v (by simp)) h
    unfold Oper.wp
    have : (execOp a.eval ⟨dst, .store t x v, type, pos, after, guard⟩).run P w = .ok .skip w' := by simp [execOp, h1]
    rw [this, Oper.upon_skip]
    exact hn undef .dead σ' K w' h2 (.dead _) h3 h4
  case nilCheck x =>
    have h0 := he x (by simp)
    split at h <;> first | exact h.elim | skip
    all_goals
      rename_i hx
      rw [hx] at h0
      generalize hv : a.eval x = v at h0
      refine wp_of_does (s := pure v) ?_ (Does.of_pure hm ⟨_, _, rfl, h0, h⟩) hn
      cases h0 <;> simp [execOp, hv]
  case binOp op t x y yt =>
    have h0 := he x (by simp)
    have h1 := he y (by simp)
    split at h
    · exact wp_of_does (s := do eqGuard op t x y (a.eval x) (a.eval y); binOp op t (a.eval x) (a.eval y)) rfl (Does.of_pure hm (binV_sound x y h0 h1 h)) hn
    · obtain ⟨r, hr, hk⟩ := h
      exact wp_of_does (s := do eqGuard op t x y (a.eval x) (a.eval y); binOp op t (a.eval x) (a.eval y)) rfl (Does.of_pure hm ⟨_, _, hr.run K w _ _ h0 h1, .bool r, hk⟩) hn
  case unOp op t x =>
    exact wp_of_does (s := Op.unary op (a.eval x)) rfl (Does.of_pure hm (unV_sound (he x (by simp)) h)) hn
  case convert s d x =>
    exact wp_of_does (s := convert s d (a.eval x)) rfl (Does.of_pure hm (convV_sound (he x (by simp)) h)) hn
  case makeInterface t x =>
    split at h
    · exact h.elim
    · rename_i d hni hd
      refine wp_of_does (s := Instr.makeInterface t (a.eval x)) rfl (Does.of_pure hm ⟨_, .iface t (a.eval x), ?_, .ifc t _ _ (he x (by simp)), h⟩) hn
      cases d <;> first | exact absurd rfl (hni _) | simp [Instr.makeInterface, run_underlying hd]
    · exact h.elim
  case makeFunc fn first cap =>
    cases fn <;> simp only at h <;> try (exact h.elim)
    rename_i f
    split at h
    case h_2 => exact h.elim
    rename_i hf
    have hf' : first = #[] := by apply Array.ext'; exact hf
    subst hf'
    have hL := args_rel (K := K) (w := w) (env := env) (a := a) cap.toList (fun x hx => he x (by simpa using hx))
    refine wp_of_does (s := pure (.func (.func f) #[] (cap.map a.eval))) (by simp [execOp, Instr.makeFunc]) (Does.of_pure hm ⟨_, _, rfl, ?_, h⟩) hn
    have := VRel.fn (K := K) (w := w) f _ _ hL.1 hL.2
    have e : (cap.toList.map a.eval).toArray = cap.map a.eval := by apply Array.ext'; simp
    rwa [e] at this
  case makeSlice t l c =>
    exact wp_of_does (s := Instr.makeSlice t (a.eval l) (a.eval c)) rfl (Does.of_mem (makeV_sound hm (he l (by simp)) (he c (by simp)) h)) hn
  case slice t x lo hi mx =>
    refine wp_of_does (s := Instr.sliceAt t (a.eval x) (lo.map a.eval) (hi.map a.eval) (mx.map a.eval)) rfl (Does.of_pure hm (sliceV_sound (he x (by simp)) (ORel_of lo ?_) (ORel_of hi ?_) (ORel_of mx ?_) h)) hn
    all_goals
      rintro y rfl
      exact he y (by simp)
  case fieldAddr s x f =>
    exact wp_of_does (s := Instr.fieldAt s (a.eval x) f) rfl (Does.of_pure hm (fieldAddrV_sound (he x (by simp)) h)) hn
  case field s x f =>
    exact wp_of_does (s := Instr.field s (a.eval x) f) rfl (Does.of_pure hm (fieldV_sound (he x (by simp)) h)) hn
  case indexAddr t x i =>
    exact wp_of_does (s := Instr.indexAt t (a.eval x) (a.eval i)) rfl (Does.of_pure hm (indexAddrV_sound (he x (by simp)) (he i (by simp)) h)) hn
  case index t x i =>
    exact wp_of_does (s := Instr.index t (a.eval x) (a.eval i)) rfl (Does.of_pure hm (indexV_sound (he x (by simp)) (he i (by simp)) h)) hn
  case range t x =>
    have h0 := he x (by simp)
    split at h
    case h_2 => exact h.elim
    rename_i s ht hx
    rw [hx] at h0
    generalize hv : a.eval x = v at h0
    cases h0
    refine wp_of_does (s := Instr.range t (a.eval x)) rfl ⟨_, .pointer (some ⟨w.heap.size, 0, none⟩), _, K, w.alloc (.stringIter ⟨s.toArray⟩ 0), ?_, h.all w.heap.size (fresh_new hm), ?_, ?_, ext_alloc hm _ _⟩ hn
    · rw [hv]; simp [Instr.range, run_underlying ht]
    · exact .bref _ _
    · exact satM_alloc hm _ _ ⟨heap_alloc_new w _, fun o ho => absurd (hm.kin _ o ho) (Nat.lt_irrefl _)⟩
  case next x str =>
    exact wp_of_does (s := Instr.next (a.eval x) str type) rfl (Does.of_mem (nextV_sound hm (he x (by simp)) h)) hn
  case extract x i =>
    have h0 := he x (by simp)
    split at h
    case h_2 => exact h.elim
    rename_i vs hx
    rw [hx] at h0
    obtain ⟨hi, hk⟩ := chk_spec h
    simp only [Nat.blt_eq] at hi
    generalize hv : a.eval x = v at h0
    cases h0
    rename_i us hl hr
    refine wp_of_does (s := Instr.extract (a.eval x) i) rfl (Does.of_pure hm ⟨_, us.getD i undef, ?_, hr i hi, hk⟩) hn
    have : i < us.length := by omega
    rw [hv]; simp [Instr.extract, this, List.getD_eq_getElem?_getD]
  case call c =>
    split at h
    · -- a function
      rename_i f hf
      split at h
      case h_2 => exact h.elim
      rename_i g cap hg
      have h0 := he f (by simp [Call.operands, hf])
      rw [hg] at h0
      have hL := args_rel (K := K) (w := w) (env := env) (a := a) c.args.toList (fun x hx => he x (by simp [Call.operands]; exact .inr (by simpa using hx)))
      generalize hv : a.eval f = v at h0
      cases h0
      rename_i us hl hr
      have hL2 := hL.append (⟨hl, hr⟩ : LRel K w cap us)
      obtain ⟨fn, hfn, hbody, hname⟩ := h.body
      have hcall := h.run K w _ hL2.1 hL2.2 hm hp
      unfold Oper.wp
      have hex : (execOp a.eval ⟨dst, .call c, type, pos, after, guard⟩).run P w = .ok (.enter g (c.args.toList.map a.eval ++ us).toArray) w := by
        have e : c.args.map a.eval ++ us.toArray = (c.args.toList.map a.eval ++ us).toArray := by apply Array.ext'; simp
        have hname' : ¬ fn.name = "runtime.NumGoroutine" := by simpa using hname
        have hbody' : ¬ fn.body = none := fun e => by rw [e] at hbody; cases hbody
        simp [execOp, resolve, hf, hv, Deferred.ofValue, invoke, callFunc, hfn, hbody', hname', e]
      rw [hex, Oper.upon_enter]
      refine hcall.mono ?_
      rintro e w' ⟨v, pv, σ', K', rfl, h1, h2, h3, h4⟩
      exact hn v pv σ' K' w' h1 h2 h3 h4
    · rename_i b hb
      have hL := args_rel (K := K) (w := w) (env := env) (a := a) c.args.toList (fun x hx => he x (by simp [Call.operands]; exact .inr (by simpa using hx)))
      obtain ⟨s, h1, h2⟩ := builtinV_sound (ty := type) (cs := c.args.map fun | .const _ => true | _ => false) hm hL h
      refine wp_of_does (s := s) ?_ h2 hn
      have e : c.args.map a.eval = (c.args.toList.map a.eval).toArray := by apply Array.ext'; simp
      rw [← h1, ← e]
      simp only [execOp, resolve, hb, pure_bind, invoke]
      rfl
    · exact h.elim
end Go.Eng
