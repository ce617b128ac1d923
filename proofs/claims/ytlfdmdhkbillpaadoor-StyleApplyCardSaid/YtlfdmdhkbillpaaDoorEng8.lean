/- The engine, part 8: the conditions are enough, operation by operation, and for the whole code. -/
import Derived.Test.YtlfdmdhkbillpaaDoorEng7
import Derived.Lib.UnsafeStr
namespace Go.Eng
open Go

variable {P : Program} {K : Kn} {w : World}

theorem obj_shape {b b' : Nat} {o o' : Obj} (hg : w.heap[b]? = some o) (ho : ∀ c t f, o ≠ .cells c t f) (_ : o' = o') {x : TypeId × Nat} (h : w.shape? b' = some x) : ({ w with heap := w.heap.setIfInBounds b o' } : World).shape? b' = some x := by
  by_cases e : b' = b
  · subst e
    unfold World.shape? at h
    rw [hg] at h
    cases o <;> first | (cases h; done) | exact absurd rfl (ho _ _ _)
  · unfold World.shape? at h ⊢
    simp only [Array.getElem?_setIfInBounds]
    rw [if_neg (Ne.symm e)]; exact h
theorem obj_cell {b b' i : Nat} {o' : Obj} (e : b' ≠ b) : ({ w with heap := w.heap.setIfInBounds b o' } : World).cell? ⟨b', i, none⟩ = w.cell? ⟨b', i, none⟩ := by
  unfold World.cell?
  simp only [Array.getElem?_setIfInBounds]
  rw [if_neg (Ne.symm e)]

theorem nextV_sound {σ : Mem} {x : PV} {u : Value} {str : Bool} {ty : TypeId} {k : PV → Mem → Prop} (hm : SatM K σ w) (hx : VRel K w x u) (h : nextV x str σ k) :
    ∃ pv r σ' w', (Instr.next u str ty).run P w = .ok r w' ∧ k pv σ' ∧ VRel K w' pv r ∧ SatM K σ' w' ∧ Ext σ K w σ' K w' := by
  unfold nextV at h
  split at h
  case h_2 => exact h.elim
  rename_i b
  obtain ⟨s, pos, r, hl, h1, h2⟩ := h
  cases hx
  obtain ⟨g1, g2⟩ : w.heap[b]? = some (.stringIter ⟨s.toArray⟩ pos) ∧ ∀ o, ¬ K b o := hm.blk _ hl.mem
  have hsz : (⟨s.toArray⟩ : ByteArray).size = s.length := by show s.toArray.size = _; simp
  by_cases hp : pos < s.length
  · have hlt : b < w.heap.size := (Array.getElem?_eq_some_iff.1 g1).1
    have hp' := hm.perm hl.perm
    have hnd := hp'.nodup
    rw [List.map_cons, List.nodup_cons] at hnd
    refine ⟨_, .tuple #[.bool true, .int .i64 pos, .int .i32 (Utf8.decode ⟨s.toArray⟩ pos).1], _, { w with heap := w.heap.setIfInBounds b (.stringIter ⟨s.toArray⟩ (pos + (Utf8.decode ⟨s.toArray⟩ pos).2)) }, ?_, h1 hp, ?_, ⟨fun b' o h => by simpa using hm.kin b' o h, ?_, fun k hk => ?_⟩, ?_⟩
    · have e1 : (getObj b).run P w = .ok (.stringIter ⟨s.toArray⟩ pos) w := by simp [getObj, Sem.run, g1]
      have e2 : ∀ o', (setObj b o').run P w = .ok () { w with heap := w.heap.setIfInBounds b o' } := fun o' => by simp [setObj, Sem.run, g1]
      simp [Instr.next, e1, e2, hsz, hp, goInt]
    · exact .tup _ _ rfl (fun i hi => by
        match i, hi with
        | 0, _ => exact .bool _
        | 1, _ => exact .int _ _
        | 2, _ => exact .int _ _)
    · rw [List.map_cons, List.nodup_cons]; exact hnd
    · rcases List.mem_cons.1 hk with rfl | hk
      · exact ⟨by simp [hlt], g2⟩
      · have hne : k.b ≠ b := fun e => hnd.1 (List.mem_map.2 ⟨k, hk, e⟩)
        refine (hp'.blk k (List.mem_cons_of_mem _ hk)).move ?_ (fun _ h => h) (fun b' o h => ⟨h, obj_cell fun e => g2 o (e ▸ h)⟩) (fun b' x h => obj_shape g1 (fun _ _ _ => by simp) rfl h)
        simp [Ne.symm hne]
    · refine ⟨rfl, rfl, rfl, by simp, fun b' x h => obj_shape g1 (fun _ _ _ => by simp) rfl h, fun b' hb hn => ?_, fun b' o h => ⟨h, obj_cell fun e => g2 o (e ▸ h)⟩, fun k hk => .inl ?_, fun _ _ h => .inl h⟩
      · have : b' ≠ b := fun e => hn _ hl.mem e.symm
        simp [Ne.symm this]
      · rcases List.mem_cons.1 hk with rfl | hk
        · exact ⟨_, hl.mem, rfl⟩
        · exact ⟨k, hl.perm.mem_iff.2 (List.mem_cons_of_mem _ hk), rfl⟩
  · refine ⟨_, .tuple #[.bool false], σ, w, ?_, h2 hp, .tup _ _ rfl (fun i hi => by
      match i, hi with
      | 0, _ => exact .bool _), hm, Ext.refl _ _ _⟩
    have e1 : (getObj b).run P w = .ok (.stringIter ⟨s.toArray⟩ pos) w := by simp [getObj, Sem.run, g1]
    simp [Instr.next, e1, hsz, hp]

theorem minInts_sound : ∀ (ps : List PV) (vs : List Value) (ik : IntKind) (x : Int) (r : PV), ps.length = vs.length → (∀ i, i < ps.length → VRel K w (ps.getD i .dead) (vs.getD i undef)) → minInts ps ik x = some r →
    ∃ v, (vs.foldlM Builtin.min2 (.int ik x) : Sem Value).run P w = .ok v w ∧ VRel K w r v
  | [], [], ik, x, r, _, _, h => by simp only [minInts, Option.some.injEq] at h; subst h; exact ⟨_, rfl, .int _ _⟩
  | p :: ps, v :: vs, ik, x, r, hl, hr, h => by
    have h0 := hr 0 (by simp)
    simp only [List.getD_cons_zero] at h0
    cases p <;> simp only [minInts] at h <;> try (cases h; done)
    rename_i k' y
    cases h0
    obtain ⟨v, h1, h2⟩ := minInts_sound ps vs ik _ r (by simpa using hl) (fun i hi => by have := hr (i + 1) (by simpa using hi); simpa using this) h
    exact ⟨v, by simpa [List.foldlM_cons, Builtin.min2] using h1, h2⟩
  | [], _ :: _, _, _, _, hl, _, _ => by simp at hl
  | _ :: _, [], _, _, _, hl, _, _ => by simp at hl
theorem maxInts_sound : ∀ (ps : List PV) (vs : List Value) (ik : IntKind) (x : Int) (r : PV), ps.length = vs.length → (∀ i, i < ps.length → VRel K w (ps.getD i .dead) (vs.getD i undef)) → maxInts ps ik x = some r →
    ∃ v, (vs.foldlM Builtin.max2 (.int ik x) : Sem Value).run P w = .ok v w ∧ VRel K w r v
  | [], [], ik, x, r, _, _, h => by simp only [maxInts, Option.some.injEq] at h; subst h; exact ⟨_, rfl, .int _ _⟩
  | p :: ps, v :: vs, ik, x, r, hl, hr, h => by
    have h0 := hr 0 (by simp)
    simp only [List.getD_cons_zero] at h0
    cases p <;> simp only [maxInts] at h <;> try (cases h; done)
    rename_i k' y
    cases h0
    obtain ⟨v, h1, h2⟩ := maxInts_sound ps vs ik _ r (by simpa using hl) (fun i hi => by have := hr (i + 1) (by simpa using hi); simpa using this) h
    exact ⟨v, by simpa [List.foldlM_cons, Builtin.max2] using h1, h2⟩
  | [], _ :: _, _, _, _, hl, _, _ => by simp at hl
  | _ :: _, [], _, _, _, hl, _, _ => by simp at hl

/-- What an operation's semantics comes to. -/
def Does (P : Program) (K : Kn) (w : World) (σ : Mem) (s : Sem Value) (k : PV → Mem → Prop) : Prop :=
  ∃ pv r σ' K' w', s.run P w = .ok r w' ∧ k pv σ' ∧ VRel K' w' pv r ∧ SatM K' σ' w' ∧ Ext σ K w σ' K' w'
theorem Does.of_pure {σ : Mem} {s : Sem Value} {k : PV → Mem → Prop} (hm : SatM K σ w) (h : ∃ pv r, s.run P w = .ok r w ∧ VRel K w pv r ∧ k pv σ) : Does P K w σ s k :=
  let ⟨pv, r, h1, h2, h3⟩ := h
  ⟨pv, r, σ, K, w, h1, h3, h2, hm, Ext.refl _ _ _⟩
theorem Does.of_mem {σ : Mem} {s : Sem Value} {k : PV → Mem → Prop} (h : ∃ pv r σ' w', s.run P w = .ok r w' ∧ k pv σ' ∧ VRel K w' pv r ∧ SatM K σ' w' ∧ Ext σ K w σ' K w') : Does P K w σ s k :=
  let ⟨pv, r, σ', w', h1, h2, h3, h4, h5⟩ := h
  ⟨pv, r, σ', K, w', h1, h2, h3, h4, h5⟩

theorem args_rel {env : Env} {a : Act} : ∀ (xs : List Operand), (∀ x ∈ xs, VRel K w (ev env x) (a.eval x)) → LRel K w (xs.map (ev env)) (xs.map a.eval) := by
  intro xs h
  refine ⟨by simp, fun i hi => ?_⟩
  simp only [List.length_map] at hi
  have e1 : (xs.map (ev env)).getD i .dead = ev env xs[i] := by simp [List.getD_eq_getElem?_getD, hi]
  have e2 : (xs.map a.eval).getD i undef = a.eval xs[i] := by simp [List.getD_eq_getElem?_getD, hi]
  rw [e1, e2]; exact h _ (List.getElem_mem hi)
theorem LRel.append {ps qs : List PV} {vs us : List Value} (h : LRel K w ps vs) (g : LRel K w qs us) : LRel K w (ps ++ qs) (vs ++ us) := by
  refine ⟨by simp [h.1, g.1], fun i hi => ?_⟩
  simp only [List.length_append] at hi
  by_cases c : i < ps.length
  · have := h.2 i c
    have c' : i < vs.length := by rw [← h.1]; exact c
    simpa [List.getD_eq_getElem?_getD, List.getElem?_append, c, c'] using this
  · have := g.2 (i - ps.length) (by omega)
    have c' : ¬ i < vs.length := by rw [← h.1]; exact c
    simpa [List.getD_eq_getElem?_getD, List.getElem?_append, c, c', h.1] using this

theorem freeze_heap {b b' n : Nat} (h : b' ≠ b) : (w.freeze ⟨b, 0, none⟩ n).heap[b']? = w.heap[b']? := by
  unfold World.freeze
  split
  · rfl
  · simp [Array.getElem?_modify, Ne.symm h]
theorem freeze_cell (b n : Nat) (p : Addr) : (w.freeze ⟨b, 0, none⟩ n).cell? p = w.cell? p := by
  unfold World.freeze
  split
  · rfl
  · unfold World.cell?
    simp only [Array.getElem?_modify]
    by_cases e : b = p.block
    · rw [if_pos e]
      cases h : w.heap[p.block]? with
      | none => rfl
      | some o => cases o <;> rfl
    · rw [if_neg e]
theorem freeze_shape (b n b' : Nat) : (w.freeze ⟨b, 0, none⟩ n).shape? b' = w.shape? b' := by
  unfold World.freeze
  split
  · rfl
  · unfold World.shape?
    simp only [Array.getElem?_modify]
    by_cases e : b = b'
    · rw [if_pos e]
      cases h : w.heap[b']? with
      | none => rfl
      | some o => cases o <;> rfl
    · rw [if_neg e]
theorem freeze_size (b n : Nat) : (w.freeze ⟨b, 0, none⟩ n).heap.size = w.heap.size := by
  unfold World.freeze
  split <;> simp
theorem strAt_sound {σ : Mem} {b e pt it ty : Nat} {u : Value} {n : Int} {k : PV → Mem → Prop} (hm : SatM K σ w) (hx : VRel K w (.bpt e b) u) (h : StrAt P σ b e pt n k) :
    Does P K w σ (Builtin.unsafeString_ #[pt, it] ty #[u, .int .i64 n]) k := by
  obtain ⟨es, fz, r, s, hl, rfl, h0, h63, he, h8, h1, hs, hk⟩ := h
  cases hx
  rename_i hsh
  obtain ⟨m, hsh⟩ := hsh
  have hro : RowOk K w b 1 es fz := hm.blk _ hl.mem
  obtain ⟨cs, ty', g1, g2, g3⟩ := hro.cells
  have hp : P.underlying pt = some (.pointer e) := by
    unfold ptrTo at he
    split at he
    · cases he; assumption
    · cases he
  have hmm : m = cs.size := by simp [World.shape?, g1] at hsh; exact hsh.2.symm
  have hle : s.length ≤ es.length := by
    have := congrArg List.length hs
    simp at this; omega
  have hat : ∀ j x, s[j]? = some x → w.cell? ⟨b, j, none⟩ = some (.int .u8 x.toNat) := fun j x hj => by
    have hjl : j < s.length := (List.getElem?_eq_some_iff.1 hj).1
    have h2 := g3 j 0 (by omega) (by omega)
    have e1 : es.getD j .dead = .int .u8 x.toNat := by
      have h3 : (es.take s.length)[j]? = some (.int .u8 x.toNat) := by rw [hs]; simp [hj]
      rw [List.getElem?_take, if_pos hjl] at h3
      simp [List.getD_eq_getElem?_getD, h3]
    rw [e1] at h2
    have hjc : j < cs.size := by omega
    simp only [PV.flat, List.getD_cons_zero, Nat.mul_one, Nat.add_zero, Array.getD_eq_getD_getElem?, Array.getElem?_eq_getElem hjc, Option.getD_some] at h2
    cases hc : cs[j] <;> rw [hc] at h2 <;> cases h2
    simp [World.cell?, g1, hjc, hc]
  have hr := Lib.run_unsafeString_row (P := P) w pt it ty e hp h1 b m hsh s h0 (by omega) (by omega) (fun j x hj => by rw [addr_add, Nat.zero_add]; exact hat j x hj)
  have hp' := hm.perm hl.perm
  have hnd := hp'.nodup
  rw [List.map_cons, List.nodup_cons] at hnd
  have hK : ∀ b' o, K b' o → K b' o ∧ (w.freeze ⟨b, 0, none⟩ s.length).cell? ⟨b', o, none⟩ = w.cell? ⟨b', o, none⟩ := fun b' o h => ⟨h, freeze_cell _ _ _⟩
  have hS : ∀ b' x, w.shape? b' = some x → (w.freeze ⟨b, 0, none⟩ s.length).shape? b' = some x := fun b' x h => by rw [freeze_shape]; exact h
  refine Does.of_mem ⟨.str s, .string ⟨s.toArray⟩, r, w.freeze ⟨b, 0, none⟩ s.length, hr, hk, .str _, ⟨fun b' o h => by rw [freeze_size]; exact hm.kin b' o h, hnd.2, fun k' hk' => ?_⟩, ?_⟩
  · have hne : k'.b ≠ b := fun e => hnd.1 (List.mem_map.2 ⟨k', hk', e⟩)
    exact (hp'.blk k' (List.mem_cons_of_mem _ hk')).move (freeze_heap hne) (fun _ h => h) hK hS
  · refine ⟨?_, ?_, ?_, by rw [freeze_size]; exact Nat.le_refl _, hS, fun b' _ hn => freeze_heap fun e => hn _ hl.mem e.symm, hK, fun k' hk' => .inl ⟨k', hl.perm.mem_iff.2 (List.mem_cons_of_mem _ hk'), rfl⟩, fun _ _ h => .inl h⟩ <;> (unfold World.freeze; split <;> rfl)

theorem findNow_int {k : IntKind} {n : Int} : ∀ (es : List (PV × PV)) (ents : List MapEntry) (j : Nat), es.length = ents.length → (∀ i, i < es.length → VRel K w (es.getD i (.dead, .dead)).1 (ents.getD i default).key) → newKey (.int k n) es = true →
    Instr.findNow (.int k) (.int k n) ents j = some none
  | [], [], j, _, _, _ => rfl
  | [], _ :: _, _, hl, _, _ => by simp at hl
  | _ :: _, [], _, hl, _, _ => by simp at hl
  | (q, v) :: es, en :: ents, j, hl, hr, hn => by
    have h0 := hr 0 (by simp)
    simp only [List.getD_cons_zero] at h0
    have ih := findNow_int (k := k) (n := n) es ents (j + 1) (by simpa using hl) (fun i hi => by have := hr (i + 1) (by simpa using hi); simpa using this)
    cases q <;> simp only [newKey] at hn <;> (try (cases hn; done))
    rename_i k' m
    simp only [Bool.and_eq_true, Bool.not_eq_true', decide_eq_false_iff_not] at hn
    obtain ⟨⟨h1, h2⟩, h3⟩ := hn
    obtain rfl := kEq_eq h1
    generalize hk : en.key = key at h0
    cases h0
    have h4 : (n == m) = false := beq_eq_false_iff_ne.2 h2
    simp [Instr.findNow, hk, Instr.sameNow, h4, ih h3]
theorem findNow_str {s : List UInt8} : ∀ (es : List (PV × PV)) (ents : List MapEntry) (j : Nat), es.length = ents.length → (∀ i, i < es.length → VRel K w (es.getD i (.dead, .dead)).1 (ents.getD i default).key) → newKey (.str s) es = true →
    Instr.findNow .string (.string ⟨s.toArray⟩) ents j = some none
  | [], [], j, _, _, _ => rfl
  | [], _ :: _, _, hl, _, _ => by simp at hl
  | _ :: _, [], _, hl, _, _ => by simp at hl
  | (q, v) :: es, en :: ents, j, hl, hr, hn => by
    have h0 := hr 0 (by simp)
    simp only [List.getD_cons_zero] at h0
    have ih := findNow_str (s := s) es ents (j + 1) (by simpa using hl) (fun i hi => by have := hr (i + 1) (by simpa using hi); simpa using this)
    cases q <;> simp only [newKey] at hn <;> (try (cases hn; done))
    rename_i m
    simp only [Bool.and_eq_true, Bool.not_eq_true', decide_eq_false_iff_not] at hn
    obtain ⟨h2, h3⟩ := hn
    generalize hk : en.key = key at h0
    cases h0
    have h4 : ((⟨s.toArray⟩ : ByteArray) == ⟨m.toArray⟩) = false := by
      show (s.toArray == m.toArray) = false
      exact beq_eq_false_iff_ne.2 fun e => h2 (by simpa using congrArg Array.toList e)
    simp [Instr.findNow, hk, Instr.sameNow, h4, ih h3]
theorem checkKey_int {kt : TypeId} {k : IntKind} {n : Int} (m : Nat) (e : Bool) (hkt : P.underlying kt = some (.int k)) : (Instr.checkKey e (m + 1) kt (.int k n)).run P w = .ok () w := by
  rw [Instr.checkKey]; simp [run_underlying hkt]
theorem checkKey_str {kt : TypeId} {s : ByteArray} (m : Nat) (e : Bool) (hkt : P.underlying kt = some .string) : (Instr.checkKey e (m + 1) kt (.string s)).run P w = .ok () w := by
  rw [Instr.checkKey]; simp [run_underlying hkt]
theorem insV_sound {σ : Mem} {t : TypeId} {m i v : PV} {u ui uv : Value} {k : Mem → Prop} (hm : SatM K σ w) (hx : VRel K w m u) (hi : VRel K w i ui) (hv : VRel K w v uv) (h : insV P t m i v σ k) :
    ∃ σ' w', (Instr.mapUpdate t u ui uv).run P w = .ok () w' ∧ k σ' ∧ SatM K σ' w' ∧ Ext σ K w σ' K w' := by
  unfold insV at h
  split at h
  case h_2 => exact h.elim
  rename_i b
  obtain ⟨es, r, hl, h⟩ := h
  obtain ⟨hpk, hnk, hk⟩ := chk_spec h
  clear h
  cases hx
  obtain ⟨g1, ents, clock, g2, g3, g4⟩ : (∀ o, ¬ K b o) ∧ ∃ ents clock, w.heap[b]? = some (.map ents clock) ∧ ents.size = es.length ∧
      ∀ i, i < es.length → VRel K w (es.getD i (.dead, .dead)).1 (ents.getD i default).key ∧ VRel K w (es.getD i (.dead, .dead)).2 (ents.getD i default).val := hm.blk _ hl.mem
  have hlt : b < w.heap.size := (Array.getElem?_eq_some_iff.1 g2).1
  have hp' := hm.perm hl.perm
  have hnd := hp'.nodup
  rw [List.map_cons, List.nodup_cons] at hnd
  have e1 : (getObj b).run P w = .ok (.map ents clock) w := by simp [getObj, Sem.run, g2]
  have e2 : ∀ o', (setObj b o').run P w = .ok () { w with heap := w.heap.setIfInBounds b o' } := fun o' => by simp [setObj, Sem.run, g2]
  have hgl : ∀ i, i < es.length → VRel K w (es.getD i (.dead, .dead)).1 (ents.toList.getD i default).key := fun i hi => by
    have := (g4 i hi).1
    simpa [List.getD_eq_getElem?_getD, Array.getD_eq_getD_getElem?] using this
  have hrun : (Instr.mapUpdate t (.map (some b)) ui uv).run P w = .ok () { w with heap := w.heap.setIfInBounds b (.map (ents.push { key := ui, val := uv, born := clock }) (clock + 1)) } := by
    unfold plainKey at hpk
    split at hpk
    case h_2 => cases hpk
    rename_i kt et ht
    split at hpk
    · rename_i k1 k2 n hkt
      obtain rfl := kEq_eq hpk
      cases hi
      have hf := findNow_int (k := k1) (n := n) es ents.toList 0 (by simp [g3]) hgl hnk
      simp [Instr.mapUpdate, run_underlying ht, e1, e2, checkKey_int 9999 false hkt, run_underlying hkt, Instr.findKey, hf]
    · rename_i s hkt
      cases hi
      have hf := findNow_str (s := s) es ents.toList 0 (by simp [g3]) hgl hnk
      simp [Instr.mapUpdate, run_underlying ht, e1, e2, checkKey_str 9999 false hkt, run_underlying hkt, Instr.findKey, hf]
    · cases hpk
  have hK : ∀ b' o, K b' o → K b' o ∧ ({ w with heap := w.heap.setIfInBounds b (.map (ents.push { key := ui, val := uv, born := clock }) (clock + 1)) } : World).cell? ⟨b', o, none⟩ = w.cell? ⟨b', o, none⟩ := fun b' o h => ⟨h, obj_cell fun e => g1 o (e ▸ h)⟩
  have hS : ∀ b' x, w.shape? b' = some x → ({ w with heap := w.heap.setIfInBounds b (.map (ents.push { key := ui, val := uv, born := clock }) (clock + 1)) } : World).shape? b' = some x := fun b' x h => obj_shape g2 (fun _ _ _ => by simp) rfl h
  refine ⟨_, _, hrun, hk, ⟨fun b' o h => by simpa using hm.kin b' o h, ?_, fun k' hk' => ?_⟩, ⟨rfl, rfl, rfl, by simp, hS, fun b' hb hn => ?_, hK, fun k' hk' => .inl ?_, fun _ _ h => .inl h⟩⟩
  · rw [List.map_cons, List.nodup_cons]; exact hnd
  · rcases List.mem_cons.1 hk' with rfl | hk'
    · refine ⟨g1, ents.push { key := ui, val := uv, born := clock }, clock + 1, by simp [hlt], by simp [g3], fun j hj => ?_⟩
      simp only [List.length_append, List.length_cons, List.length_nil] at hj
      by_cases c : j < es.length
      · have c' : j < ents.size := by omega
        have := g4 j c
        have q1 : (es ++ [(i, v)]).getD j (.dead, .dead) = es.getD j (.dead, .dead) := by simp [List.getD_eq_getElem?_getD, List.getElem?_append, c]
        have q2 : (ents.push { key := ui, val := uv, born := clock }).getD j default = ents.getD j default := by simp [Array.getD_eq_getD_getElem?, Array.getElem?_push, c', Nat.ne_of_lt c']
        rw [q1, q2]
        exact ⟨this.1.mono hK hS, this.2.mono hK hS⟩
      · obtain rfl : j = es.length := by omega
        have q1 : (es ++ [(i, v)]).getD es.length (.dead, .dead) = (i, v) := by simp [List.getD_eq_getElem?_getD]
        have q2 : (ents.push { key := ui, val := uv, born := clock }).getD es.length default = { key := ui, val := uv, born := clock } := by simp [Array.getD_eq_getD_getElem?, ← g3]
        rw [q1, q2]
        exact ⟨hi.mono hK hS, hv.mono hK hS⟩
    · have hne : k'.b ≠ b := fun e => hnd.1 (List.mem_map.2 ⟨k', hk', e⟩)
      refine (hp'.blk k' (List.mem_cons_of_mem _ hk')).move ?_ (fun _ h => h) hK hS
      simp [Ne.symm hne]
  · have : b' ≠ b := fun e => hn _ hl.mem e.symm
    simp [Ne.symm this]
  · rcases List.mem_cons.1 hk' with rfl | hk'
    · exact ⟨_, hl.mem, rfl⟩
    · exact ⟨k', hl.perm.mem_iff.2 (List.mem_cons_of_mem _ hk'), rfl⟩

theorem builtinV_sound {σ : Mem} {b : Builtin} {ts : Array TypeId} {ty : TypeId} {cs : Array Bool} {ps : List PV} {vs : List Value} {k : PV → Mem → Prop} (hm : SatM K σ w) (hL : LRel K w ps vs)
    (h : builtinV P b ts ps σ k) : ∃ s, builtin b ts ty cs vs.toArray = (do pure (.value (← s))) ∧ Does P K w σ s k := by
  obtain ⟨hl, hr⟩ := hL
  unfold builtinV at h
  split at h
  · -- len
    match vs, hl with
    | [v], _ =>
    have h0 := hr 0 (by simp)
    simp only [List.getD_cons_zero] at h0
    refine ⟨_, rfl, Does.of_pure hm ?_⟩
    rename_i x
    split at h
    case h_2 => exact h.elim
    rename_i t ht
    split at h
    · rename_i n e he
      exact ⟨_, _, by simp [Builtin.len_, ht, run_underlying he]; rfl, .int _ _, h⟩
    · rename_i he
      split at h
      case h_2 => exact h.elim
      cases h0
      rename_i s
      refine ⟨_, .int .i64 s.length, ?_, .int _ _, h⟩
      have hsz : (⟨s.toArray⟩ : ByteArray).size = s.length := by show s.toArray.size = _; simp
      simp [Builtin.len_, ht, run_underlying he, goInt, hsz]
    · rename_i e he
      split at h
      · cases h0 <;> exact ⟨_, .int .i64 _, by simp [Builtin.len_, ht, run_underlying he, goInt], .int _ _, h⟩
      · cases h0; exact ⟨_, .int .i64 _, by simp [Builtin.len_, ht, run_underlying he, goInt], .int _ _, h⟩
      · cases h0; exact ⟨_, .int .i64 _, by simp [Builtin.len_, ht, run_underlying he, goInt], .int _ _, h⟩
      · cases h0; exact ⟨_, .int .i64 _, by simp [Builtin.len_, ht, run_underlying he, goInt], .int _ _, h⟩
      · exact h.elim
    · exact h.elim
  · -- min
    rename_i ik x rest
    split at h
    case h_2 => exact h.elim
    rename_i r hmi
    match vs, hl with
    | v :: vs, hl =>
    have h0 := hr 0 (by simp)
    simp only [List.getD_cons_zero] at h0
    cases h0
    obtain ⟨v, h1, h2⟩ := minInts_sound (P := P) rest vs ik x r (by simpa using hl) (fun i hi => by have := hr (i + 1) (by simpa using hi); simpa using this) hmi
    exact ⟨_, rfl, Does.of_pure hm ⟨_, v, by simpa [Builtin.min_] using h1, h2, h⟩⟩
  · rename_i ik x rest
    split at h
    case h_2 => exact h.elim
    rename_i r hmi
    match vs, hl with
    | v :: vs, hl =>
    have h0 := hr 0 (by simp)
    simp only [List.getD_cons_zero] at h0
    cases h0
    obtain ⟨v, h1, h2⟩ := maxInts_sound (P := P) rest vs ik x r (by simpa using hl) (fun i hi => by have := hr (i + 1) (by simpa using hi); simpa using this) hmi
    exact ⟨_, rfl, Does.of_pure hm ⟨_, v, by simpa [Builtin.max_] using h1, h2, h⟩⟩
  · -- append
    match vs, hl with
    | [u, v], _ =>
    have h0 := hr 0 (by simp)
    have h1 := hr 1 (by simp)
    simp only [List.getD_cons_zero, List.getD_cons_succ] at h0 h1
    split at h
    case h_2 => exact h.elim
    rename_i t t2 e1 e2
    split at h
    case h_2 => exact h.elim
    rename_i e3
    exact ⟨_, rfl, Does.of_mem (appendV_sound e1 e2 e3 hm h0 h1 h)⟩
  · match vs, hl with
    | [u, v], _ =>
    have h0 := hr 0 (by simp)
    have h1 := hr 1 (by simp)
    simp only [List.getD_cons_zero, List.getD_cons_succ] at h0 h1
    split at h
    case h_2 => exact h.elim
    rename_i t e1
    exact ⟨_, rfl, Does.of_mem (copyV_sound e1 hm h0 h1 h)⟩
  · match vs, hl with
    | [u], _ =>
    have h0 := hr 0 (by simp)
    simp only [List.getD_cons_zero] at h0
    split at h
    case h_2 => exact h.elim
    rename_i t e1
    exact ⟨_, rfl, Does.of_mem (clearV_sound e1 hm h0 h)⟩
  · match vs, hl with
    | [u], _ =>
    have h0 := hr 0 (by simp)
    simp only [List.getD_cons_zero] at h0
    split at h
    · cases h0
      exact ⟨_, rfl, Does.of_pure hm ⟨_, .pointer none, rfl, .lit _, h⟩⟩
    · obtain ⟨hn, h⟩ := h
      cases h0 with
      | bsl _ _ _ cap hc hs =>
        obtain ⟨m, hs, _⟩ := hs
        refine ⟨_, rfl, Does.of_pure hm ⟨_, .pointer _, ?_, .bpt _ _ ⟨m, hs⟩, h⟩⟩
        exact Lib.run_unsafeSliceData_row (P := P) _ _ _ _ _ _ (by omega)
    · exact h.elim
  · match vs, hl with
    | [u, v], _ =>
    have h0 := hr 0 (by simp)
    have h1 := hr 1 (by simp)
    simp only [List.getD_cons_zero, List.getD_cons_succ] at h0 h1
    split at h
    case h_2 => exact h.elim
    cases h1
    split at h
    case h_2 => exact h.elim
    rename_i pt it hts
    obtain rfl : ts = #[pt, it] := by apply Array.ext'; exact hts
    split at h
    · obtain ⟨rfl, h⟩ := h
      cases h0
      exact ⟨_, rfl, Does.of_pure hm ⟨_, _, Lib.run_unsafeString_none (P := P) w pt it ty none, .str [], h⟩⟩
    · exact ⟨_, rfl, strAt_sound hm h0 h⟩
    · exact h.elim
  · exact h.elim

theorem ORel_of {env : Env} {a : Act} (x : Option Operand) (h : ∀ y, x = some y → VRel K w (ev env y) (a.eval y)) : ORel K w (evO env x) (x.map a.eval) := by
  cases x with
  | none => trivial
  | some y => exact h y rfl

theorem wp_of_does {o : Oper} {a : Act} {σ : Mem} {k : PV → Mem → Prop} {next : Act → World → Prop} {Q : Exit → Act → World → Prop} {s : Sem Value}
    (he : execOp a.eval o = (do pure (.value (← s)) : Sem Next)) (hd : Does P K w σ s k)
    (hn : ∀ v pv σ' K' w', k pv σ' → VRel K' w' pv v → SatM K' σ' w' → Ext σ K w σ' K' w' → next (a.put o.dst v) w') : o.wp P a w next Q := by
  obtain ⟨pv, r, σ', K', w', h1, h2, h3, h4, h5⟩ := hd
  unfold Oper.wp
  rw [he, Sem.run_bind, h1, Result.andThen_ok, Sem.run_pure, Oper.upon_value]
  exact hn r pv σ' K' w' h2 h3 h4 h5

theorem buildSliceV_sound {σ : Mem} {t : TypeId} {n : Nat} {ps : List (Nat × PV)} {us : List (Nat × Value)} {k : PV → Mem → Prop} (hm : SatM K σ w) (hl : ps.length = us.length)
    (hr : ∀ i, i < ps.length → (ps.getD i (0, .dead)).1 = (us.getD i (0, undef)).1 ∧ VRel K w (ps.getD i (0, .dead)).2 (us.getD i (0, undef)).2)
    (h : buildSliceV P t n ps fun sz es => k (.sl sz es) σ ∨ New1 σ fun b => k (.rsl b sz 0 es.length) (⟨b, .row sz es 0⟩ :: σ)) : Does P K w σ (Instr.buildSlice t n us.toArray) k := by
  obtain ⟨sz, es, cs, e, hk, hp, hz, hLr, hlen, hr'⟩ := buildSlice_cells (P := P) hl hr h
  have hcs : es.length * sz = cs.size := by rw [← flats_length hz, hLr.1]; simp
  have hnew := new_row hm e sz es 0 (Nat.zero_le _) cs hz (by omega) (fun m hmm => by
    have := hLr.2 m (by rw [flats_length hz]; exact hmm)
    rwa [getD_toList] at this)
  have hrel : VRel K (w.alloc (.cells cs e)) (.rsl w.heap.size sz 0 es.length) (.slice (some ⟨w.heap.size, 0, none⟩) n n) := by
    rw [hlen]
    exact VRel.rsl (w := w.alloc _) w.heap.size _ 0 _ 0 _ (fun _ => by simp) (Nat.le_refl _) ⟨e, _, shape_new e _, by rw [← hcs, hlen]; omega⟩
  rcases hk with hk | hk
  · obtain ⟨K', g1, g2, g3⟩ := freeze_row hnew
    have hv := g3 0 es.length _ (by omega) hrel
    simp only [List.drop_zero, List.take_length] at hv
    exact ⟨_, _, σ, K', _, hr', hk, hv, g1.drop (List.sublist_cons_self _ _), ((ext_alloc hm _ _).trans g2).trans (Ext.drop (List.sublist_cons_self _ _))⟩
  · exact ⟨_, _, _, K, _, hr', hk.all w.heap.size (fresh_new hm), hrel, hnew, ext_alloc hm _ _⟩

theorem Pre.ext {W : World} {σ σ' : Mem} {K' : Kn} {w' : World} (h : Pre W σ w) (x : Ext σ K w σ' K' w') : Pre W σ' w' where
  size := Nat.le_trans h.size x.size
  base b hb := (x.keep b (Nat.lt_of_lt_of_le hb h.size) (fun k hk e => by have := h.own k hk; omega)).trans (h.base b hb)
  own k hk := by
    rcases x.own k hk with ⟨k0, h0, h1⟩ | h1
    · have := h.own k0 h0; omega
    · exact Nat.le_trans h.size h1

theorem pickV_sound {t : Bool} {a b : PV} {u v : Value} {k : PV → Prop} (hx : VRel K w a u) (hy : VRel K w b v) (h : pickV t a b k) : ∃ pv, VRel K w pv (if t then u else v) ∧ k pv := by
  unfold pickV at h
  split at h
  · split at h <;> try exact h.elim
    split at h <;> try exact h.elim
    obtain ⟨hn, h⟩ := h
    split at h
    · refine ⟨_, ?_, h⟩
      cases t
      · simpa using hy
      · cases hx with
        | opt _ _ _ h1 _ => simpa using h1 (hn rfl)
    · refine ⟨_, ?_, h⟩
      cases t
      · simpa using hy
      · cases hx with
        | opt _ _ _ h1 _ => simpa using h1 (hn rfl)
  · split at h <;> try exact h.elim
    obtain ⟨rfl, h⟩ := h
    exact ⟨_, hy, h⟩
  · split at h
    · split at h <;> try exact h.elim
      split at h <;> try exact h.elim
      obtain ⟨hn, h⟩ := h
      split at h
      · refine ⟨_, ?_, h⟩
        cases t
        · cases hy with
          | opt _ _ _ h1 _ => simpa using h1 (hn rfl)
        · simpa using hx
      · refine ⟨_, ?_, h⟩
        cases t
        · cases hy with
          | opt _ _ _ h1 _ => simpa using h1 (hn rfl)
        · simpa using hx
    · split at h <;> try exact h.elim
      obtain ⟨rfl, h⟩ := h
      exact ⟨_, hx, h⟩
    · refine ⟨_, ?_, h⟩
      cases t
      · exact hy
      · exact hx
theorem opV_sound {W : World} {o : Oper} {env : Env} {a : Act} {σ : Mem} {k : PV → Mem → Prop} {next : Act → World → Prop} {Q : Exit → Act → World → Prop} (hm : SatM K σ w) (hp : Pre W σ w)
    (he : ∀ x ∈ o.op.operands, VRel K w (ev env x) (a.eval x)) (h : opV P W o.op env σ k)
    (hn : ∀ v pv σ' K' w', k pv σ' → VRel K' w' pv v → SatM K' σ' w' → Ext σ K w σ' K' w' → next (a.put o.dst v) w') : o.wp P a w next Q := by
  obtain ⟨dst, op, type, pos, after, guard⟩ := o
  simp only at h he
  cases op <;> simp only [opV] at h <;> simp only [Op.operands] at he <;> try (exact h.elim)
  case move x =>
    refine wp_of_does (s := pure (a.eval x)) rfl (Does.of_pure hm ⟨_, _, rfl, he x (by simp), h⟩) hn
  case assign x =>
    refine wp_of_does (s := pure (a.eval x)) rfl (Does.of_pure hm ⟨_, _, rfl, he x (by simp), h⟩) hn
  case pick c x y =>
    split at h
    case h_2 => exact h.elim
    rename_i t hc
    have h0 := he c (by simp)
    rw [hc] at h0
    obtain ⟨pvx, hpvx, hkx⟩ := pickV_sound (he x (by simp)) (he y (by simp)) h
    refine wp_of_does (s := pure (if t then a.eval x else a.eval y)) ?_ (Does.of_pure hm ⟨_, _, rfl, hpvx, hkx⟩) hn
    generalize hv : a.eval c = v at h0
    cases h0
    simp [execOp, hv, asBool]
  case alloc e =>
    have hc : cellsB (zeroV P e) = true := by
      have h : allocV P e (zeroV P e) σ k := h
      unfold allocV at h
      split at h <;> (have := (chk_spec h).1; simp only [Bool.and_eq_true] at this; exact this.2)
    obtain ⟨i, z, hi, hz, hzv⟩ := zeroV_rel hc
    obtain ⟨pv, r, σ', w', h1, h2, h3, h4, h5⟩ := allocV_sound (P := P) (e := e) hm (hzv ▸ ofV_rel z : VRel K w (zeroV P e) z) h
    exact wp_of_does (s := Instr.alloc e true (.tuple #[])) rfl ⟨pv, .pointer (some r), σ', K, w', by simp [Instr.alloc, run_zeroValue hi hz, h1], h2, h3, h4, h5⟩ hn
  case box e x =>
    obtain ⟨pv, r, σ', w', h1, h2, h3, h4, h5⟩ := newV_sound (P := P) (e := e) hm (he x (by simp)) h
    exact wp_of_does (s := Instr.box e (a.eval x)) rfl ⟨pv, .pointer (some r), σ', K, w', by simp [Instr.box, h1], h2, h3, h4, h5⟩ hn
  case build t ps =>
    have hL : ∀ i, i < (ps.toList.map fun p => (p.1, ev env p.2)).length → ((ps.toList.map fun p => (p.1, ev env p.2)).getD i (0, .dead)).1 = ((ps.toList.map fun p => (p.1, a.eval p.2)).getD i (0, undef)).1 ∧
        VRel K w ((ps.toList.map fun p => (p.1, ev env p.2)).getD i (0, .dead)).2 ((ps.toList.map fun p => (p.1, a.eval p.2)).getD i (0, undef)).2 := fun i hi => by
      simp only [List.length_map] at hi
      simp only [List.getD_eq_getElem?_getD, List.getElem?_map, List.getElem?_eq_getElem hi, Option.map_some, Option.getD_some, true_and]
      exact he _ (by rw [List.mem_toArray, List.mem_map]; exact ⟨_, List.getElem_mem hi, rfl⟩)
    obtain ⟨pv, r, h1, h2, h3⟩ := buildV_sound (P := P) (by simp) hL h
    refine wp_of_does (s := Instr.build t (ps.map fun (i, x) => (i, a.eval x))) rfl (Does.of_pure hm ⟨pv, r, ?_, h2, h3⟩) hn
    rw [← h1]; congr 2; apply Array.ext'; simp
  case buildSlice t n ps =>
    have hL : ∀ i, i < (ps.toList.map fun p => (p.1, ev env p.2)).length → ((ps.toList.map fun p => (p.1, ev env p.2)).getD i (0, .dead)).1 = ((ps.toList.map fun p => (p.1, a.eval p.2)).getD i (0, undef)).1 ∧
        VRel K w ((ps.toList.map fun p => (p.1, ev env p.2)).getD i (0, .dead)).2 ((ps.toList.map fun p => (p.1, a.eval p.2)).getD i (0, undef)).2 := fun i hi => by
      simp only [List.length_map] at hi
      simp only [List.getD_eq_getElem?_getD, List.getElem?_map, List.getElem?_eq_getElem hi, Option.map_some, Option.getD_some, true_and]
      exact he _ (by rw [List.mem_toArray, List.mem_map]; exact ⟨_, List.getElem_mem hi, rfl⟩)
    have hd : Does P K w σ (Instr.buildSlice t n (ps.toList.map fun p => (p.1, a.eval p.2)).toArray) k := buildSliceV_sound (P := P) (k := k) hm (by simp) hL h
    have e : (ps.toList.map fun p => (p.1, a.eval p.2)).toArray = ps.map fun p => (p.1, a.eval p.2) := by apply Array.ext'; simp
    refine wp_of_does ?_ hd hn
    rw [e]; rfl
  case load t x =>
    exact wp_of_does (s := Instr.loadAt t (a.eval x)) rfl (Does.of_pure hm (loadV_sound hm (he x (by simp)) h)) hn
  case store t x v =>
    obtain ⟨σ', w', h1, h2, h3, h4⟩ := storeV_sound (P := P) hm (he x (by simp)) (he v (by simp)) h
    unfold Oper.wp
    have : (execOp a.eval ⟨dst, .store t x v, type, pos, after, guard⟩).run P w = .ok .skip w' := by simp [execOp, h1]
    rw [this, Oper.upon_skip]
    exact hn undef .dead σ' K w' h2 (.dead _) h3 h4
  case nilCheck x =>
    have h0 := he x (by simp)
    split at h <;> first | exact h.elim | skip
    all_goals
      rename_i hx
      rw [hx] at h0
      generalize hv : a.eval x = v at h0
      refine wp_of_does (s := pure v) ?_ (Does.of_pure hm ⟨_, _, rfl, h0, h⟩) hn
      cases h0 <;> simp [execOp, hv]
  case binOp op t x y yt =>
    have h0 := he x (by simp)
    have h1 := he y (by simp)
    split at h
    · exact wp_of_does (s := do eqGuard op t x y (a.eval x) (a.eval y); binOp op t (a.eval x) (a.eval y)) rfl (Does.of_pure hm (binV_sound x y h0 h1 h)) hn
    · obtain ⟨r, hr, hk⟩ := h
      exact wp_of_does (s := do eqGuard op t x y (a.eval x) (a.eval y); binOp op t (a.eval x) (a.eval y)) rfl (Does.of_pure hm ⟨_, _, hr.run K w _ _ h0 h1, .bool r, hk⟩) hn
  case unOp op t x =>
    exact wp_of_does (s := Op.unary op (a.eval x)) rfl (Does.of_pure hm (unV_sound (he x (by simp)) h)) hn
  case convert s d x =>
    exact wp_of_does (s := convert s d (a.eval x)) rfl (Does.of_pure hm (convV_sound (he x (by simp)) h)) hn
  case makeInterface t x =>
    split at h
    · exact h.elim
    · rename_i d hni hd
      refine wp_of_does (s := Instr.makeInterface t (a.eval x)) rfl (Does.of_pure hm ⟨_, .iface t (a.eval x), ?_, .ifc t _ _ (he x (by simp)), h⟩) hn
      cases d <;> first | exact absurd rfl (hni _) | simp [Instr.makeInterface, run_underlying hd]
    · exact h.elim
  case makeFunc fn first cap =>
    cases fn <;> simp only at h <;> try (exact h.elim)
    rename_i f
    split at h
    case h_2 => exact h.elim
    rename_i hf
    have hf' : first = #[] := by apply Array.ext'; exact hf
    subst hf'
    have hL := args_rel (K := K) (w := w) (env := env) (a := a) cap.toList (fun x hx => he x (by simpa using hx))
    refine wp_of_does (s := pure (.func (.func f) #[] (cap.map a.eval))) (by simp [execOp, Instr.makeFunc]) (Does.of_pure hm ⟨_, _, rfl, ?_, h⟩) hn
    have := VRel.fn (K := K) (w := w) f _ _ hL.1 hL.2
    have e : (cap.toList.map a.eval).toArray = cap.map a.eval := by apply Array.ext'; simp
    rwa [e] at this
  case makeSlice t l c =>
    exact wp_of_does (s := Instr.makeSlice t (a.eval l) (a.eval c)) rfl (Does.of_mem (makeV_sound hm (he l (by simp)) (he c (by simp)) h)) hn
  case slice t x lo hi mx =>
    refine wp_of_does (s := Instr.sliceAt t (a.eval x) (lo.map a.eval) (hi.map a.eval) (mx.map a.eval)) rfl (Does.of_pure hm (sliceV_sound (he x (by simp)) (ORel_of lo ?_) (ORel_of hi ?_) (ORel_of mx ?_) h)) hn
    all_goals
      rintro y rfl
      exact he y (by simp)
  case fieldAddr s x f =>
    exact wp_of_does (s := Instr.fieldAt s (a.eval x) f) rfl (Does.of_pure hm (fieldAddrV_sound (he x (by simp)) h)) hn
  case field s x f =>
    exact wp_of_does (s := Instr.field s (a.eval x) f) rfl (Does.of_pure hm (fieldV_sound (he x (by simp)) h)) hn
  case indexAddr t x i =>
    exact wp_of_does (s := Instr.indexAt t (a.eval x) (a.eval i)) rfl (Does.of_pure hm (indexAddrV_sound (he x (by simp)) (he i (by simp)) h)) hn
  case index t x i =>
    exact wp_of_does (s := Instr.index t (a.eval x) (a.eval i)) rfl (Does.of_pure hm (indexV_sound (he x (by simp)) (he i (by simp)) h)) hn
  case range t x =>
    have h0 := he x (by simp)
    split at h
    case h_2 => exact h.elim
    rename_i s ht hx
    rw [hx] at h0
    generalize hv : a.eval x = v at h0
    cases h0
    refine wp_of_does (s := Instr.range t (a.eval x)) rfl ⟨_, .pointer (some ⟨w.heap.size, 0, none⟩), _, K, w.alloc (.stringIter ⟨s.toArray⟩ 0), ?_, h.all w.heap.size (fresh_new hm), ?_, ?_, ext_alloc hm _ _⟩ hn
    · rw [hv]; simp [Instr.range, run_underlying ht]
    · exact .bref _ _
    · exact satM_alloc hm _ _ ⟨heap_alloc_new w _, fun o ho => absurd (hm.kin _ o ho) (Nat.lt_irrefl _)⟩
  case next x str =>
    exact wp_of_does (s := Instr.next (a.eval x) str type) rfl (Does.of_mem (nextV_sound hm (he x (by simp)) h)) hn
  case extract x i =>
    have h0 := he x (by simp)
    split at h
    case h_2 => exact h.elim
    rename_i vs hx
    rw [hx] at h0
    obtain ⟨hi, hk⟩ := chk_spec h
    simp only [Nat.blt_eq] at hi
    generalize hv : a.eval x = v at h0
    cases h0
    rename_i us hl hr
    refine wp_of_does (s := Instr.extract (a.eval x) i) rfl (Does.of_pure hm ⟨_, us.getD i undef, ?_, hr i hi, hk⟩) hn
    have : i < us.length := by omega
    rw [hv]; simp [Instr.extract, this, List.getD_eq_getElem?_getD]
  case lookup t x i ok =>
    obtain ⟨r, h1, h2⟩ := h
    obtain ⟨z, h3, h4⟩ := h1.run K w _ _ hm (he x (by simp)) (he i (by simp))
    exact wp_of_does (s := Instr.lookup t (a.eval x) (a.eval i) ok) rfl (Does.of_pure hm ⟨_, z, h3, h4, h2⟩) hn
  case makeMap t r =>
    have key : New1 σ (fun b => k (.mp b) (⟨b, .mpc []⟩ :: σ)) → (Instr.makeMap t (r.map a.eval)).run P w = .ok (.map (some w.heap.size)) (w.alloc (.map #[] 0)) → Oper.wp P ⟨dst, .makeMap t r, type, pos, after, guard⟩ a w next Q := fun hk hrun =>
      wp_of_does (s := Instr.makeMap t (r.map a.eval)) rfl ⟨_, _, _, K, w.alloc (.map #[] 0), hrun, hk.all w.heap.size (fresh_new hm), .mp _,
        satM_alloc hm _ _ ⟨fun o ho => absurd (hm.kin _ o ho) (Nat.lt_irrefl _), _, _, heap_alloc_new w _, rfl, fun i hi => by simp at hi⟩, ext_alloc hm _ _⟩ hn
    split at h
    · exact key h (by simp [Instr.makeMap])
    · rename_i x
      have h0 := he x (by simp)
      split at h
      case h_2 => exact h.elim
      rename_i ik n hx
      rw [hx] at h0
      obtain ⟨hc, h⟩ := chk_spec h
      unfold isMapB at hc
      split at hc
      case h_2 => cases hc
      rename_i kt et ht
      generalize hv : a.eval x = v at h0
      cases h0
      exact key h (by simp [Instr.makeMap, hv, run_underlying ht, asInt, asIntOf])
  case insert t m i v =>
    obtain ⟨σ', w', h1, h2, h3, h4⟩ := insV_sound (P := P) hm (he m (by simp)) (he i (by simp)) (he v (by simp)) h
    unfold Oper.wp
    have : (execOp a.eval ⟨dst, .insert t m i v, type, pos, after, guard⟩).run P w = .ok .skip w' := by simp [execOp, h1]
    rw [this, Oper.upon_skip]
    exact hn undef .dead σ' K w' h2 (.dead _) h3 h4
  case mapUpdate t m i v =>
    obtain ⟨σ', w', h1, h2, h3, h4⟩ := insV_sound (P := P) hm (he m (by simp)) (he i (by simp)) (he v (by simp)) h
    unfold Oper.wp
    have : (execOp a.eval ⟨dst, .mapUpdate t m i v, type, pos, after, guard⟩).run P w = .ok .skip w' := by simp [execOp, h1]
    rw [this, Oper.upon_skip]
    exact hn undef .dead σ' K w' h2 (.dead _) h3 h4
  case typeAssert x s t ok =>
    exact h.run ⟨dst, .typeAssert x s t ok, type, pos, after, guard⟩ K w a next Q rfl hm hp (by simpa only [Op.operands] using he) hn
  case call c =>
    split at h
    · -- a function
      rename_i f hf
      split at h
      case h_2 => exact h.elim
      rename_i g cap hg
      have h0 := he f (by simp [Call.operands, hf])
      rw [hg] at h0
      have hL := args_rel (K := K) (w := w) (env := env) (a := a) c.args.toList (fun x hx => he x (by simp [Call.operands]; exact .inr (by simpa using hx)))
      generalize hv : a.eval f = v at h0
      cases h0
      rename_i us hl hr
      have hL2 := hL.append (⟨hl, hr⟩ : LRel K w cap us)
      unfold callV at h
      split at h
      · obtain ⟨r, hx, hk⟩ := h
        obtain ⟨v, hrun, hv'⟩ := hx.run K w _ hL2.1 hL2.2
        unfold Oper.wp
        have hex : (execOp a.eval ⟨dst, .call c, type, pos, after, guard⟩).run P w = .ok (.value v) w := by
          have e : c.args.map a.eval ++ us.toArray = (c.args.toList.map a.eval ++ us).toArray := by apply Array.ext'; simp
          simp [execOp, resolve, hf, hv, Deferred.ofValue, invoke, e, hrun]
        rw [hex, Oper.upon_value]
        exact hn v r σ K w hk hv' hm (Ext.refl _ _ _)
      obtain ⟨fn, hfn, hbody, hname⟩ := h.body
      have hcall := h.run K w _ hL2.1 hL2.2 hm hp
      unfold Oper.wp
      have hex : (execOp a.eval ⟨dst, .call c, type, pos, after, guard⟩).run P w = .ok (.enter g (c.args.toList.map a.eval ++ us).toArray) w := by
        have e : c.args.map a.eval ++ us.toArray = (c.args.toList.map a.eval ++ us).toArray := by apply Array.ext'; simp
        have hname' : ¬ fn.name = "runtime.NumGoroutine" := by simpa using hname
        have hbody' : ¬ fn.body = none := fun e => by rw [e] at hbody; cases hbody
        simp [execOp, resolve, hf, hv, Deferred.ofValue, invoke, callFunc, hfn, hbody', hname', e]
      rw [hex, Oper.upon_enter]
      refine hcall.mono ?_
      rintro e w' ⟨v, pv, σ', K', rfl, h1, h2, h3, h4⟩
      exact hn v pv σ' K' w' h1 h2 h3 h4
    · rename_i b hb
      have hL := args_rel (K := K) (w := w) (env := env) (a := a) c.args.toList (fun x hx => he x (by simp [Call.operands]; exact .inr (by simpa using hx)))
      obtain ⟨s, h1, h2⟩ := builtinV_sound (ty := type) (cs := c.args.map fun | .const _ => true | _ => false) hm hL h
      refine wp_of_does (s := s) ?_ h2 hn
      have e : c.args.map a.eval = (c.args.toList.map a.eval).toArray := by apply Array.ext'; simp
      rw [← h1, ← e]
      simp only [execOp, resolve, hb, pure_bind, invoke]
      rfl
    · exact h.elim
end Go.Eng
