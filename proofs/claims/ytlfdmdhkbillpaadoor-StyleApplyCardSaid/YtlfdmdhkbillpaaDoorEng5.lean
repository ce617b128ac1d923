/- The engine, part 5: new rows, stores, appends: what is owned stays true. -/
import Derived.Test.YtlfdmdhkbillpaaDoorEng4
namespace Go.Eng
open Go

variable {P : Program} {K : Kn} {w : World}

theorem rowOk_of {b sz : Nat} {es : List PV} {fz : Nat} {cs : Array Value} {ty : TypeId} (hfz : fz ≤ es.length) (hex : ∀ o, K b o → o < fz * sz) (hz : ∀ e ∈ es, e.flat.length = sz)
    (hg : w.heap[b]? = some (.cells cs ty (0, 0))) (hlen : es.length * sz ≤ cs.size)
    (h : ∀ n, n < es.length * sz → VRel K w ((flats es).getD n .dead) (cs.getD n undef)) : RowOk K w b sz es fz :=
  ⟨hfz, hex, hz, cs, ty, hg, hlen, fun i j hi hj => by
    rw [← flats_getD hz i j hi hj]
    refine h _ ?_
    have : (i + 1) * sz ≤ es.length * sz := Nat.mul_le_mul_right _ hi
    rw [Nat.add_mul] at this; omega⟩
theorem RowOk.flats {b sz : Nat} {es : List PV} {fz : Nat} (h : RowOk K w b sz es fz) :
    ∃ cs ty, w.heap[b]? = some (.cells cs ty (0, 0)) ∧ es.length * sz ≤ cs.size ∧ ∀ n, n < es.length * sz → VRel K w ((flats es).getD n .dead) (cs.getD n undef) := by
  obtain ⟨cs, ty, h1, h2, h3⟩ := h.cells
  refine ⟨cs, ty, h1, h2, fun n hn => ?_⟩
  have hsz : 0 < sz := by
    rcases Nat.eq_zero_or_pos sz with rfl | h0
    · simp at hn
    · exact h0
  have e : n = n / sz * sz + n % sz := by rw [Nat.mul_comm]; exact (Nat.div_add_mod n sz).symm
  have hq : n / sz < es.length := (Nat.div_lt_iff_lt_mul hsz).2 hn
  have hm : n % sz < sz := Nat.mod_lt _ hsz
  have := h3 _ _ hq hm
  rw [← flats_getD h.hz _ _ hq hm, ← e] at this
  exact this

theorem shape_alloc (o : Obj) {b : Nat} {x : TypeId × Nat} (h : w.shape? b = some x) : (w.alloc o).shape? b = some x := by
  unfold World.shape? at h ⊢
  have hlt : b < w.heap.size := by
    rcases Nat.lt_or_ge b w.heap.size with h' | h'
    · exact h'
    · rw [Array.getElem?_eq_none h'] at h; cases h
  rw [Go.RowKit.Below.heap_alloc w o b hlt]; exact h
theorem vrel_alloc (hm : ∀ b o, K b o → b < w.heap.size) (o : Obj) {p : PV} {v : Value} (h : VRel K w p v) : VRel K (w.alloc o) p v :=
  h.mono (fun b i hb => ⟨hb, World.cell?_alloc_lt w o ⟨b, i, none⟩ (hm b i hb)⟩) (fun _ _ h => shape_alloc o h)
theorem ext_alloc {σ : Mem} (hm : SatM K σ w) (o : Obj) (c : Cont) : Ext σ K w (⟨w.heap.size, c⟩ :: σ) K (w.alloc o) where
  os := rfl
  tape := rfl
  output := rfl
  size := by simp
  shape _ _ h := shape_alloc o h
  keep b hb _ := Go.RowKit.Below.heap_alloc w o b hb
  kn b i hb := ⟨hb, World.cell?_alloc_lt w o ⟨b, i, none⟩ (hm.kin b i hb)⟩
  own k hk := by
    rcases List.mem_cons.1 hk with rfl | hk
    · exact .inr (Nat.le_refl _)
    · exact .inl ⟨k, hk, rfl⟩
  fresh _ _ h := .inl h
theorem satM_alloc {σ : Mem} (hm : SatM K σ w) (o : Obj) (c : Cont) (hb : BlkOk K (w.alloc o) ⟨w.heap.size, c⟩) : SatM K (⟨w.heap.size, c⟩ :: σ) (w.alloc o) := by
  refine ⟨fun b i h => by have := hm.kin b i h; simp; omega, ?_, fun k hk => ?_⟩
  · rw [List.map_cons, List.nodup_cons]
    refine ⟨fun h => ?_, hm.nodup⟩
    obtain ⟨k, hk, e⟩ := List.mem_map.1 h
    have := (hm.blk k hk).lt; simp only at e; omega
  · rcases List.mem_cons.1 hk with rfl | hk
    · exact hb
    · have hlt := (hm.blk k hk).lt
      exact (hm.blk k hk).move (Go.RowKit.Below.heap_alloc w o k.b hlt) (fun _ h => h) (fun b i h => ⟨h, World.cell?_alloc_lt w o ⟨b, i, none⟩ (hm.kin b i h)⟩) (fun _ _ h => shape_alloc o h)
theorem fresh_new {σ : Mem} (hm : SatM K σ w) : ∀ x ∈ σ, x.b ≠ w.heap.size := fun x hx => Nat.ne_of_lt (hm.blk x hx).lt

/-- A new row of the call's own. -/
theorem new_row {σ : Mem} (hm : SatM K σ w) (ty : TypeId) (sz : Nat) (es : List PV) (fz : Nat) (hfz : fz ≤ es.length) (cs : Array Value) (hz : ∀ e ∈ es, e.flat.length = sz) (hlen : es.length * sz ≤ cs.size)
    (h : ∀ n, n < es.length * sz → VRel K w ((flats es).getD n .dead) (cs.getD n undef)) :
    SatM K (⟨w.heap.size, .row sz es fz⟩ :: σ) (w.alloc (.cells cs ty)) := by
  refine satM_alloc hm _ _ ?_
  show RowOk K _ _ sz es fz
  refine rowOk_of hfz (fun o ho => absurd (hm.kin _ o ho) (Nat.lt_irrefl _)) hz (cs := cs) (ty := ty) (heap_alloc_new w _) hlen (fun n hn => vrel_alloc hm.kin _ (h n hn))
theorem shape_new (ty : TypeId) (cs : Array Value) : (w.alloc (.cells cs ty)).shape? w.heap.size = some (ty, cs.size) := by
  simp only [World.shape?]; rw [heap_alloc_new w]

theorem newV_sound {σ : Mem} {p : PV} {v : Value} {n : Nat} {e : TypeId} {k : PV → Mem → Prop} (hm : SatM K σ w) (hv : VRel K w p v) (h : newV p n σ k) :
    ∃ pv r σ' w', (newVar e v).run P w = .ok r w' ∧ k pv σ' ∧ VRel K w' pv (.pointer (some r)) ∧ SatM K σ' w' ∧ Ext σ K w σ' K w' := by
  obtain ⟨hc, h3⟩ := chk_spec h
  simp only [Bool.and_eq_true, Nat.beq_eq] at hc
  obtain ⟨h1, h2⟩ := hc
  obtain ⟨g1, g2⟩ := cells_LRel hv h2
  refine ⟨_, ⟨w.heap.size, 0, none⟩, _, w.alloc (.cells v.cells e), rfl, h3.all w.heap.size (fresh_new hm), .bref _ _, ?_, ext_alloc hm _ _⟩
  have hl := g1.1
  simp only [Array.length_toList] at hl
  refine new_row hm e n [p] 0 (Nat.zero_le _) v.cells (by simp [h1]) (by simp; omega) (fun m hm' => ?_)
  have := g1.2 m (by simp at hm'; omega)
  simp only [flats, List.flatMap_cons, List.flatMap_nil, List.append_nil]
  simpa [Array.getD, List.getD_eq_getElem?_getD, show m < v.cells.size by simp at hm'; omega] using this

theorem allocV_sound {σ : Mem} {p : PV} {v : Value} {e : TypeId} {k : PV → Mem → Prop} (hm : SatM K σ w) (hv : VRel K w p v) (h : allocV P e p σ k) :
    ∃ pv r σ' w', (newVar e v).run P w = .ok r w' ∧ k pv σ' ∧ VRel K w' pv (.pointer (some r)) ∧ SatM K σ' w' ∧ Ext σ K w σ' K w' := by
  unfold allocV at h
  split at h
  case h_2 => exact newV_sound hm hv h
  obtain ⟨hc, h3⟩ := chk_spec h
  simp only [Bool.and_eq_true, Nat.beq_eq] at hc
  obtain ⟨h1, h2⟩ := hc
  obtain ⟨g1, g2⟩ := cells_LRel hv h2
  have hl := g1.1
  simp only [Array.length_toList] at hl
  refine ⟨_, ⟨w.heap.size, 0, none⟩, _, w.alloc (.cells v.cells e), rfl, h3.all w.heap.size (fresh_new hm), .tpt _ _ _ ?_, ?_, ext_alloc hm _ _⟩
  · rw [shape_new]; congr 2; omega
  refine new_row hm e (P.cellsOf e) [p] 0 (Nat.zero_le _) v.cells (by simp [h1]) (by simp; omega) (fun m hm' => ?_)
  have := g1.2 m (by simp at hm'; omega)
  simp only [flats, List.flatMap_cons, List.flatMap_nil, List.append_nil]
  simpa [Array.getD, List.getD_eq_getElem?_getD, show m < v.cells.size by simp at hm'; omega] using this

/-! ### Rows that are written -/
theorem setRow_shape {b : Nat} {cs cs' : Array Value} {ty : TypeId} (hg : w.heap[b]? = some (.cells cs ty (0, 0))) (hs : cs'.size = cs.size) {b' : Nat} {x : TypeId × Nat} (h : w.shape? b' = some x) :
    (w.setRow b cs').shape? b' = some x := by
  by_cases e : b' = b
  · subst e
    unfold World.shape? at h ⊢
    rw [setRow_heap w b' cs cs' ty _ hg]
    rw [hg] at h
    simpa [hs] using h
  · unfold World.shape? at h ⊢
    rw [setRow_other w b b' cs' e]; exact h
theorem setRow_size (b : Nat) (cs : Array Value) : (w.setRow b cs).heap.size = w.heap.size := by simp [World.setRow]
theorem setRow_kn {b : Nat} {cs cs' : Array Value} {ty : TypeId} (hg : w.heap[b]? = some (.cells cs ty (0, 0))) (hk : ∀ o, K b o → cs'[o]? = cs[o]?) (b' o : Nat) (h : K b' o) :
    (w.setRow b cs').cell? ⟨b', o, none⟩ = w.cell? ⟨b', o, none⟩ := by
  by_cases e : b' = b
  · subst e
    simp [World.cell?, setRow_heap w b' cs cs' ty _ hg, hg, hk o h]
  · simp [World.cell?, setRow_other w b b' cs' e]

theorem row_written {σ r : Mem} {b sz : Nat} {es es' : List PV} {fz : Nat} {cs cs' : Array Value} {ty : TypeId} (hm : SatM K σ w) (hl : Look σ b (.row sz es fz) r)
    (hg : w.heap[b]? = some (.cells cs ty (0, 0))) (hs : cs'.size = cs.size) (hz : ∀ e ∈ es', e.flat.length = sz) (hfz : fz ≤ es'.length) (hlen : es'.length * sz ≤ cs.size)
    (hrel : ∀ n, n < es'.length * sz → VRel K w ((flats es').getD n .dead) (cs'.getD n undef)) (hkeep : ∀ o, o < fz * sz → cs'[o]? = cs[o]?) :
    SatM K (⟨b, .row sz es' fz⟩ :: r) (w.setRow b cs') ∧ Ext σ K w (⟨b, .row sz es' fz⟩ :: r) K (w.setRow b cs') := by
  have hro : RowOk K w b sz es fz := hm.blk _ hl.mem
  have hkk : ∀ o, K b o → cs'[o]? = cs[o]? := fun o ho => hkeep o (hro.ex o ho)
  have hp := hm.perm hl.perm
  have hnd := hp.nodup
  rw [List.map_cons, List.nodup_cons] at hnd
  refine ⟨⟨fun b' o h => by rw [setRow_size]; exact hm.kin b' o h, by rw [List.map_cons, List.nodup_cons]; exact hnd, fun k hk => ?_⟩, ?_⟩
  · rcases List.mem_cons.1 hk with rfl | hk
    · show RowOk K _ b sz es' fz
      exact rowOk_of hfz hro.ex hz (setRow_heap w b cs cs' ty _ hg) (by rw [hs]; exact hlen)
        (fun n hn => (hrel n hn).mono (fun b' o h => ⟨h, setRow_kn hg hkk b' o h⟩) (fun b' x h => setRow_shape hg hs h))
    · have hne : k.b ≠ b := fun e => hnd.1 (List.mem_map.2 ⟨k, hk, e⟩)
      exact (hp.blk k (List.mem_cons_of_mem _ hk)).move (setRow_other w b k.b cs' hne) (fun _ h => h) (fun b' o h => ⟨h, setRow_kn hg hkk b' o h⟩) (fun b' x h => setRow_shape hg hs h)
  · refine ⟨rfl, rfl, rfl, by rw [setRow_size]; exact Nat.le_refl _, fun b' x h => setRow_shape hg hs h, fun b' hb hn => setRow_other w b b' cs' (fun e => hn _ hl.mem e.symm), fun b' o h => ⟨h, setRow_kn hg hkk b' o h⟩, fun k hk => .inl ?_, fun _ _ h => .inl h⟩
    rcases List.mem_cons.1 hk with rfl | hk
    · exact ⟨_, hl.mem, rfl⟩
    · exact ⟨k, hl.perm.mem_iff.2 (List.mem_cons_of_mem _ hk), rfl⟩

theorem getD_toArray (l : List Value) (n : Nat) : l.toArray.getD n undef = l.getD n undef := by
  by_cases h : n < l.length
  · simp [Array.getD, h, List.getD_eq_getElem?_getD]
  · simp [Array.getD, h, List.getD_eq_getElem?_getD]
theorem getD_toList (a : Array Value) (n : Nat) : a.toList.getD n undef = a.getD n undef := by
  by_cases h : n < a.size
  · simp [Array.getD, h, List.getD_eq_getElem?_getD]
  · simp [Array.getD, h, List.getD_eq_getElem?_getD]

theorem store_at {σ r : Mem} {t : TypeId} {p : PV} {v : Value} {b sz' i f : Nat} {es : List PV} {fz : Nat} (hm : SatM K σ w) (hv : VRel K w p v) (hl : Look σ b (.row sz' es fz) r)
    (hi : i < es.length) (hf : f + p.flat.length ≤ sz') (hsz : p.flat.length = P.cellsOf t) (hfz : fz ≤ i) (hc : cellsB p = true) (hpos : 0 < P.cellsOf t) :
    ∃ w', (Instr.storeAt t (.pointer (some ⟨b, i * sz' + f, none⟩)) v).run P w = .ok () w' ∧ SatM K (⟨b, .row sz' (es.set i (setPart (es.getD i .dead) f p)) fz⟩ :: r) w' ∧
      Ext σ K w (⟨b, .row sz' (es.set i (setPart (es.getD i .dead) f p)) fz⟩ :: r) K w' := by
  obtain ⟨g1, g2⟩ := cells_LRel hv hc
  have hro : RowOk K w b sz' es fz := hm.blk _ hl.mem
  obtain ⟨cs, ty, h1, h2, h3⟩ := hro.flats
  have hvl : v.cells.size = p.flat.length := by have := g1.1; simp at this; omega
  have hbd : i * sz' + sz' ≤ es.length * sz' := by
    have : (i + 1) * sz' ≤ es.length * sz' := Nat.mul_le_mul_right _ hi
    rw [Nat.add_mul] at this; omega
  have hef := hro.flat hi
  -- the new element, as cells
  have hflat : (setPart (es.getD i .dead) f p).flat = splice (es.getD i .dead).flat f p.flat := by
    unfold setPart
    split
    · rename_i cs' e; rw [e]; rfl
    · rename_i e
      have h1' : (es.getD i .dead).flat = [es.getD i .dead] := by
        generalize es.getD i .dead = q at e
        cases q <;> first | rfl | exact absurd rfl (e _)
      rw [h1'] at hef ⊢
      simp only [List.length_cons, List.length_nil] at hef
      have : f = 0 := by omega
      subst this
      have : p.flat.length = 1 := by omega
      simp [splice, this]
  have hsl : (splice (es.getD i .dead).flat f p.flat).length = sz' := by rw [length_splice _ _ _ (by omega), hef]
  have hrow := run_storeCells_at P b (i * sz' + f) ty v.cells.toList 0 cs w h1 (by simp; omega) g2
  simp only [Nat.add_zero] at hrow
  have hfit : i * sz' + f + v.cells.toList.length ≤ cs.toList.length := by simp; omega
  have hfl := flats_length hro.hz
  refine ⟨w.setRow b (splice cs.toList (i * sz' + f) v.cells.toList).toArray, ?_, ?_⟩
  · have hs := run_sizeOf (P := P) (w := w) hpos
    have hve : v.cells.size = P.cellsOf t := by omega
    simp only [Instr.storeAt, Instr.sureAddr, Sem.run_bind, Sem.run_pure, Result.andThen_ok, storeVar, hs, hve, ne_eq, not_true, if_false]
    exact hrow
  · refine row_written hm hl h1 (by simp [length_splice _ _ _ hfit]) (fun e he => ?_) (by simpa using hro.le) (by simpa using h2) (fun n hn => ?_) (fun o ho => ?_)
    · rcases List.mem_or_eq_of_mem_set he with h4 | rfl
      · exact hro.hz e h4
      · rw [hflat]; exact hsl
    · rw [List.length_set] at hn
      rw [flats_set hro.hz _ (by rw [hflat]; exact hsl) i hi, hflat, getD_toArray, getD_splice _ _ _ _ (by rw [hsl]; omega), getD_splice _ _ _ _ hfit]
      rw [hsl]
      simp only [Array.length_toList]
      by_cases c1 : i * sz' + f ≤ n ∧ n < i * sz' + f + v.cells.size
      · rw [if_pos (by omega), if_pos c1, getD_splice _ _ _ _ (by omega), if_pos (by omega), show n - i * sz' - f = n - (i * sz' + f) by omega]
        exact g1.2 _ (by omega)
      · rw [if_neg c1]
        have h5 := h3 n hn
        rw [getD_toList]
        by_cases c2 : i * sz' ≤ n ∧ n < i * sz' + sz'
        · rw [if_pos c2, getD_splice _ _ _ _ (by omega), if_neg (by omega)]
          have := flats_getD hro.hz i (n - i * sz') hi (by omega)
          rw [← this, show i * sz' + (n - i * sz') = n by omega]; exact h5
        · rw [if_neg c2]; exact h5
    · have h6 : fz * sz' ≤ i * sz' := Nat.mul_le_mul_right _ hfz
      have : (splice cs.toList (i * sz' + f) v.cells.toList)[o]? = cs.toList[o]? := by
        simp only [splice]
        rw [List.getElem?_append_left (by simp at hfit ⊢; omega), List.getElem?_append_left (by simp at hfit ⊢; omega), List.getElem?_take, if_pos (by omega)]
      simpa using this

theorem storeV_sound {σ : Mem} {t : TypeId} {x p : PV} {u v : Value} {k : Mem → Prop} (hm : SatM K σ w) (hx : VRel K w x u) (hv : VRel K w p v) (h : storeV P t x p σ k) :
    ∃ σ' w', (Instr.storeAt t u v).run P w = .ok () w' ∧ k σ' ∧ SatM K σ' w' ∧ Ext σ K w σ' K w' := by
  cases hx <;> (try exact h.elim)
  case bref b f =>
    obtain ⟨sz, es, fz, r, hl, h⟩ := h
    split at h
    case h_2 => exact h.elim
    rename_i e
    obtain ⟨hc, hk⟩ := chk_spec h
    simp only [Bool.and_eq_true, Nat.ble_eq, Nat.beq_eq, Nat.blt_eq] at hc
    obtain ⟨⟨⟨⟨hf, hsz⟩, rfl⟩, hc⟩, hpos⟩ := hc
    obtain ⟨w', h1, h2, h3⟩ := store_at (P := P) (i := 0) hm hv hl (by simp) hf hsz (Nat.le_refl _) hc hpos
    exact ⟨_, w', by simpa using h1, hk, h2, h3⟩
  case ref b sz i f =>
    obtain ⟨sz', es, fz, r, hl, h⟩ := h
    obtain ⟨hc, ⟨hi, hfz⟩, hk⟩ := chk_spec h
    simp only [Bool.and_eq_true, Nat.ble_eq, Nat.beq_eq, Nat.blt_eq] at hc
    obtain ⟨⟨⟨⟨rfl, hf⟩, hsz⟩, hc⟩, hpos⟩ := hc
    obtain ⟨w', h1, h2, h3⟩ := store_at (P := P) hm hv hl hi hf hsz hfz hc hpos
    exact ⟨_, w', h1, hk.all _ (getD_some hi), h2, h3⟩

/-! ### What a slice that is read has -/
/-- Its cells, where they lie. -/
theorem elemsOf_sound {d : Nat} {σ : Mem} {x : PV} {u : Value} {k : Nat → List PV → Prop} (hm : SatM K σ w) (hx : VRel K w x u) (h : elemsOf d x σ k) :
    ∃ sz ys, k sz ys ∧ (∀ y ∈ ys, y.flat.length = sz ∨ ys = []) ∧ (∃ a cap, u = .slice a ys.length cap ∧ (ys ≠ [] → ∃ b o, a = some ⟨b, o, none⟩ ∧
      ∃ vs : List Value, LRel K w (flats ys) vs ∧ ∀ j, j < vs.length → w.cell? ⟨b, o + j, none⟩ = some (vs.getD j undef))) ∧ (∀ y ∈ ys, y.flat.length = sz) := by
  by_cases hlit : ∃ a c, x = .lit (.slice a 0 c)
  · obtain ⟨a, c, rfl⟩ := hlit
    cases hx
    exact ⟨d, [], h, by simp, ⟨a, c, rfl, fun h => absurd rfl h⟩, by simp⟩
  cases hx <;> (try exact h.elim)
  case lit =>
    exfalso
    unfold elemsOf at h
    split at h <;> first | exact h | (rename_i e; exact hlit ⟨_, _, e⟩) | (rename_i e; cases e)
  case sl0 sz a cap => exact ⟨sz, [], h, by simp, ⟨a, cap, rfl, fun h => absurd rfl h⟩, by simp⟩
  case nils => exact ⟨d, [], h, by simp, ⟨none, 0, rfl, fun h => absurd rfl h⟩, by simp⟩
  case sl sz es b o cap hcap vs hz hk hv =>
    refine ⟨sz, es, h, fun y hy => .inl (hz y hy), ⟨_, cap, rfl, fun _ => ⟨b, o, rfl, (List.range (es.length * sz)).map fun n => vs (n / sz) (n % sz), ?_, fun j hj => ?_⟩⟩, hz⟩
    · refine ⟨by simp [flats_length hz], fun n hn => ?_⟩
      rw [flats_length hz] at hn
      have hsz : 0 < sz := by
        rcases Nat.eq_zero_or_pos sz with rfl | h0
        · simp at hn
        · exact h0
      have e : n = n / sz * sz + n % sz := by rw [Nat.mul_comm]; exact (Nat.div_add_mod n sz).symm
      have hq : n / sz < es.length := (Nat.div_lt_iff_lt_mul hsz).2 hn
      have hmm : n % sz < sz := Nat.mod_lt _ hsz
      have h1 := hv _ _ hq hmm
      rw [← flats_getD hz _ _ hq hmm, ← e] at h1
      simpa [List.getD_eq_getElem?_getD, hn] using h1
    · simp only [List.length_map, List.length_range] at hj
      have hsz : 0 < sz := by
        rcases Nat.eq_zero_or_pos sz with rfl | h0
        · simp at hj
        · exact h0
      have e : j = j / sz * sz + j % sz := by rw [Nat.mul_comm]; exact (Nat.div_add_mod j sz).symm
      have h1 := (hk _ _ ((Nat.div_lt_iff_lt_mul hsz).2 hj) (Nat.mod_lt j hsz)).2
      rw [Nat.add_assoc, ← e] at h1
      simpa [List.getD_eq_getElem?_getD, hj] using h1
  case rsl b sz i n o cap ho hc hs =>
    obtain ⟨sz', es, fz, r, hl, h⟩ := h
    obtain ⟨hc0, hin, hk⟩ := chk_spec h
    obtain rfl : sz' = sz := by simpa using hc0
    have hro : RowOk K w b sz' es fz := hm.blk _ hl.mem
    have hz : ∀ y ∈ (es.drop i).take n, y.flat.length = sz' := fun y hy => hro.hz y (List.mem_of_mem_drop (List.mem_of_mem_take hy))
    have hlen : ((es.drop i).take n).length = n := by simp; omega
    refine ⟨sz', _, hk, fun y hy => .inl (hz y hy), ⟨_, cap, by rw [hlen], fun hne => ⟨b, o, rfl, ?_⟩⟩, hz⟩
    have hn0 : n ≠ 0 := fun e => hne (by rw [e]; simp)
    have ho' := ho (.inl hn0)
    obtain ⟨cs, ty, h1, h2, h3⟩ := hro.flats
    have hb : i * sz' + n * sz' ≤ es.length * sz' := by rw [← Nat.add_mul]; exact Nat.mul_le_mul_right _ hin
    refine ⟨(List.range (n * sz')).map fun j => cs.getD (o + j) undef, ⟨by rw [flats_length hz, hlen]; simp, fun m hmm => ?_⟩, fun j hj => ?_⟩
    · rw [flats_length hz, hlen] at hmm
      have hsz : 0 < sz' := by
        rcases Nat.eq_zero_or_pos sz' with rfl | h0
        · simp at hmm
        · exact h0
      have e : m = m / sz' * sz' + m % sz' := by rw [Nat.mul_comm]; exact (Nat.div_add_mod m sz').symm
      have hq : m / sz' < n := (Nat.div_lt_iff_lt_mul hsz).2 hmm
      have hmo : m % sz' < sz' := Nat.mod_lt _ hsz
      have e2 : (flats ((es.drop i).take n)).getD m .dead = (flats es).getD (o + m) .dead := by
        rw [e, flats_getD hz _ _ (by rw [hlen]; exact hq) hmo]
        have : o + (m / sz' * sz' + m % sz') = (i + m / sz') * sz' + m % sz' := by rw [ho', Nat.add_mul]; omega
        rw [this, flats_getD hro.hz _ _ (by omega) hmo]
        congr 2
        simp [List.getD_eq_getElem?_getD, hq]
      rw [e2]
      have := h3 (o + m) (by omega)
      simpa [List.getD_eq_getElem?_getD, hmm] using this
    · simp only [List.length_map, List.length_range] at hj
      have hlt : o + j < cs.size := by omega
      simp [World.cell?, h1, hlt, List.getD_eq_getElem?_getD, hj, Array.getD]
end Go.Eng
