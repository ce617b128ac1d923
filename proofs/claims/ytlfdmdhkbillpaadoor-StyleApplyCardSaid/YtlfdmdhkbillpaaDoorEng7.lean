/- The engine, part 7: copy, clear, make, slice literals, strings that are gone through; what is owned becomes what nobody writes. -/
import Derived.Test.YtlfdmdhkbillpaaDoorEng6
namespace Go.Eng
open Go

variable {P : Program} {K : Kn} {w : World}

/-- Cells written over a part of an owned row. -/
theorem over_row {σ r : Mem} {b sz : Nat} {es : List PV} {fz : Nat} {ys : List PV} {vs : List Value} {i : Nat} (hm : SatM K σ w) (hl : Look σ b (.row sz es fz) r) (hi : i + ys.length ≤ es.length) (hfz : fz ≤ i)
    (hz : ∀ y ∈ ys, y.flat.length = sz) (hL : LRel K w (flats ys) vs) (h1 : ∀ v ∈ vs, v.oneCell' = true) :
    ∃ w', (storeCells ⟨b, i * sz, none⟩ vs).run P w = .ok () w' ∧ SatM K (⟨b, .row sz (es.take i ++ ys ++ es.drop (i + ys.length)) fz⟩ :: r) w' ∧
      Ext σ K w (⟨b, .row sz (es.take i ++ ys ++ es.drop (i + ys.length)) fz⟩ :: r) K w' := by
  have hro : RowOk K w b sz es fz := hm.blk _ hl.mem
  obtain ⟨cs, ty, g1, g2, g3⟩ := hro.flats
  have hvl : vs.length = ys.length * sz := by rw [← hL.1, flats_length hz]
  have hb : i * sz + ys.length * sz ≤ es.length * sz := by rw [← Nat.add_mul]; exact Nat.mul_le_mul_right _ hi
  have hst := run_storeCells_at P b (i * sz) ty vs 0 cs w g1 (by omega) h1
  simp only [Nat.add_zero] at hst
  have hfit : i * sz + vs.length ≤ cs.toList.length := by simp; omega
  have hlen : (es.take i ++ ys ++ es.drop (i + ys.length)).length = es.length := by simp; omega
  have hzz : ∀ e ∈ es.take i ++ ys ++ es.drop (i + ys.length), e.flat.length = sz := fun e he => by
    rcases List.mem_append.1 he with he | he
    · rcases List.mem_append.1 he with he | he
      · exact hro.hz e (List.mem_of_mem_take he)
      · exact hz e he
    · exact hro.hz e (List.mem_of_mem_drop he)
  have hfl := flats_length hro.hz
  have hf1 : (flats (es.take i)).length = i * sz := by rw [flats_length (fun e he => hro.hz e (List.mem_of_mem_take he))]; congr 1; simp; omega
  have hfe : flats (es.take i ++ ys ++ es.drop (i + ys.length)) = splice (flats es) (i * sz) (flats ys) := by
    have h3 : flats es = flats (es.take i) ++ flats (es.drop i) := by rw [← flats_append, List.take_append_drop]
    have h4 : flats (es.drop i) = flats ((es.drop i).take ys.length) ++ flats (es.drop (i + ys.length)) := by
      rw [← flats_append]; congr 1
      rw [← List.drop_drop, List.take_append_drop]
    have h5 : (flats ((es.drop i).take ys.length)).length = ys.length * sz := by
      rw [flats_length (fun e he => hro.hz e (List.mem_of_mem_drop (List.mem_of_mem_take he)))]; congr 1; simp; omega
    rw [flats_append, flats_append, splice, h3, h4, List.take_left' hf1]
    congr 1
    rw [← List.append_assoc, List.drop_left' (by rw [List.length_append, hf1, h5, flats_length hz])]
  obtain ⟨s1, s2⟩ := row_written (es' := es.take i ++ ys ++ es.drop (i + ys.length)) (cs' := (splice cs.toList (i * sz) vs).toArray) hm hl g1 (by simp [length_splice _ _ _ hfit]) hzz (by rw [hlen]; exact hro.le) (by rw [hlen]; exact g2)
    (fun n hn => by
      rw [hlen] at hn
      rw [hfe, getD_toArray, getD_splice _ _ _ _ hfit, getD_splice _ _ _ _ (by rw [hfl, flats_length hz]; omega), flats_length hz, hvl]
      split
      · exact hL.2 _ (by rw [flats_length hz]; omega)
      · rw [getD_toList]; exact g3 n hn)
    (fun o ho => by
      have h6 : fz * sz ≤ i * sz := Nat.mul_le_mul_right _ hfz
      have : (splice cs.toList (i * sz) vs)[o]? = cs.toList[o]? := by
        simp only [splice]
        rw [List.getElem?_append_left (by simp at hfit ⊢; omega), List.getElem?_append_left (by simp at hfit ⊢; omega), List.getElem?_take, if_pos (by omega)]
      simpa using this)
  exact ⟨_, hst, s1, s2⟩

theorem LRel.take {ps : List PV} {vs : List Value} (h : LRel K w ps vs) (n : Nat) : LRel K w (ps.take n) (vs.take n) :=
  ⟨by simp [h.1], fun i hi => by
    simp only [List.length_take] at hi
    have := h.2 i (by omega)
    simpa [List.getD_eq_getElem?_getD, show i < n by omega] using this⟩
theorem flats_take {ys : List PV} {sz : Nat} (hz : ∀ y ∈ ys, y.flat.length = sz) (n : Nat) : flats (ys.take n) = (flats ys).take (n * sz) := by
  by_cases h : n ≤ ys.length
  · have h1 : flats ys = flats (ys.take n) ++ flats (ys.drop n) := by rw [← flats_append, List.take_append_drop]
    have h2 : (flats (ys.take n)).length = n * sz := by rw [flats_length (fun e he => hz e (List.mem_of_mem_take he))]; congr 1; simp; omega
    rw [h1, List.take_left' h2]
  · rw [List.take_of_length_le (by omega), List.take_of_length_le]
    rw [flats_length hz]; exact Nat.mul_le_mul_right _ (by omega)

theorem copyV_sound {σ : Mem} {ts : Array TypeId} {t ty : TypeId} {d x : PV} {u v : Value} {k : PV → Mem → Prop} (h0 : ts[0]? = some t)
    (hm : SatM K σ w) (hd : VRel K w d u) (hx : VRel K w x v) (h : copyV P t d x σ k) :
    ∃ pv r σ' w', (Builtin.copy_ ts ty #[u, v]).run P w = .ok r w' ∧ k pv σ' ∧ VRel K w' pv r ∧ SatM K σ' w' ∧ Ext σ K w σ' K w' := by
  unfold copyV at h
  split at h
  case h_2 => exact h.elim
  rename_i e he
  obtain ⟨sz, ys, hk, _, ⟨a, cap', rfl, hsrc⟩, hzy⟩ := elemsOf_sound hm hx h
  cases hd <;> (try exact hk.elim)
  rename_i b sz' i n o cap ho hc hsh
  obtain ⟨sz'', es, fz, r, hl, hk0⟩ := hk
  obtain ⟨hc0, ⟨hin, hcy0, hfz⟩, hk⟩ := chk_spec hk0
  clear hk0 h
  simp only [Bool.and_eq_true, Nat.beq_eq, Nat.blt_eq] at hc0
  obtain ⟨⟨⟨hys, rfl⟩, rfl⟩, hpos⟩ := hc0
  have hcy := List.all_eq_true.1 hcy0
  have hs := run_sizeOf (P := P) (w := w) hpos
  have hzi : ∀ y ∈ ys, y.flat.length = P.cellsOf e := fun y hy => by
    rw [← hys]; exact hzy y hy
  have hmin : (ys.take n).length = min n ys.length := by simp
  -- the source's first cells
  have src : ∃ news : List Value, LRel K w (flats (ys.take n)) news ∧ (Builtin.firstCells (P.cellsOf e) (min n ys.length) (.slice a ys.length cap')).run P w = .ok news.toArray w := by
    by_cases hy0 : ys = []
    · subst hy0
      refine ⟨[], ⟨by simp [flats], fun i hi => by simp [flats] at hi⟩, ?_⟩
      cases a with
      | none => rfl
      | some a => simp [Builtin.firstCells, loadCells, loadCellsFrom]
    · obtain ⟨b', o', ha, vs, hL, hcc⟩ := hsrc hy0
      have hL' := hL.take (n * P.cellsOf e)
      rw [← flats_take hzi] at hL'
      have hvl : vs.length = ys.length * P.cellsOf e := by rw [← hL.1, flats_length hzi]
      refine ⟨_, hL', ?_⟩
      subst ha
      refine run_firstCells_some (P := P) w (P.cellsOf e) (min n ys.length) ⟨b', o', none⟩ ys.length cap' _ ?_ (fun j v hj => ?_)
      · rw [List.length_take, hvl, Nat.mul_min_mul_right]
      · rw [addr_add]
        have hlt := (List.getElem?_eq_some_iff.1 hj).1
        rw [List.length_take] at hlt
        rw [List.getElem?_take, if_pos (by omega)] at hj
        rw [hcc j (by omega)]
        simp [List.getD_eq_getElem?_getD, hj]
  obtain ⟨news, hL, hf⟩ := src
  have hone := one_of_cellsB hL (fun y hy => hcy y (List.mem_of_mem_take hy))
  have hrun : ∀ w', (storeCells ⟨b, o, none⟩ news).run P w = .ok () w' → (Builtin.copy_ ts ty #[.slice (some ⟨b, o, none⟩) n cap, .slice a ys.length cap']).run P w = .ok (goInt (min n ys.length : Nat)) w' := fun w' hst => by
    have e1 : Nat.min ys.length n = min n ys.length := by rw [Nat.min_comm]
    simp [Builtin.copy_, h0, run_underlying he, Builtin.lenOf, hs, e1, hf, hst]
  have hlen : es.take i ++ ys.take n ++ es.drop (i + min n ys.length) = es.take i ++ ys.take n ++ es.drop (i + (ys.take n).length) := by rw [hmin]
  by_cases hn0 : n = 0
  · subst hn0
    have hnw : news = [] := by
      have := hL.1
      rw [List.take_zero] at this
      exact List.eq_nil_of_length_eq_zero this.symm
    subst hnw
    have e2 : es.take i ++ ys.take 0 ++ es.drop (i + min 0 ys.length) = es := by simp
    rw [e2] at hk
    exact ⟨_, _, _, w, hrun w rfl, hk, .int _ _, hm.perm hl.perm, Ext.perm (Ext.refl σ K w) (.refl _) hl.perm⟩
  · have ho' := ho (.inl hn0)
    subst ho'
    obtain ⟨w', g1, g2, g3⟩ := over_row (P := P) (ys := ys.take n) (vs := news) (i := i) hm hl (by rw [hmin]; omega) hfz (fun y hy => hzi y (List.mem_of_mem_take hy)) hL hone
    rw [← hlen] at g2 g3
    exact ⟨_, _, _, w', hrun w' g1, hk, .int _ _, g2, g3⟩

theorem zeroCells_rel {e : TypeId} (h : zeroOk P e = true) (n : Nat) : ∃ i z, P.info? e = some i ∧ i.zero = some z ∧ P.cellsOf e = i.size ∧ 0 < i.size ∧ z.cells.size = i.size ∧
    (∀ y ∈ List.replicate n (zeroV P e), y.flat.length = i.size) ∧ LRel K w (flats (List.replicate n (zeroV P e))) (Builtin.zeroCells z.cells n).toList ∧ ∀ v ∈ (Builtin.zeroCells z.cells n).toList, v.oneCell' = true := by
  obtain ⟨i, z, hi, hz, hc, hzs, hp, hb, hv⟩ := zeroOk_spec h
  have hcb : cellsB (zeroV P e) = true := by unfold zeroOk at h; simp only [Bool.and_eq_true] at h; exact h.1.1.2
  have hflat := flat_LRel (K := K) (w := w) (ofV_rel z) ⟨z, rfl, rfl⟩
  rw [← hv] at hflat
  have hfl : (zeroV P e).flat.length = i.size := by rw [hflat.1]; simpa using hzs
  have hzz : ∀ y ∈ List.replicate n (zeroV P e), y.flat.length = i.size := fun y hy => by rw [List.eq_of_mem_replicate hy]; exact hfl
  have hone := (cells_LRel (hv ▸ ofV_rel z : VRel K w (zeroV P e) z) hcb).2
  have hL : LRel K w (flats (List.replicate n (zeroV P e))) (Builtin.zeroCells z.cells n).toList := by
    refine ⟨by rw [flats_length hzz]; simp [Builtin.zeroCells, hzs], fun m hm => ?_⟩
    rw [flats_length hzz] at hm
    simp only [List.length_replicate] at hm
    have em : m = m / i.size * i.size + m % i.size := by rw [Nat.mul_comm]; exact (Nat.div_add_mod m _).symm
    have hq : m / i.size < n := (Nat.div_lt_iff_lt_mul hp).2 hm
    have hmo : m % i.size < i.size := Nat.mod_lt _ hp
    have e1 : (flats (List.replicate n (zeroV P e))).getD m .dead = (zeroV P e).flat.getD (m % i.size) .dead := by
      conv => lhs; rw [em]
      rw [flats_getD hzz _ _ (by simpa using hq) hmo]
      simp [List.getD_eq_getElem?_getD, hq]
    have e2 : (Builtin.zeroCells z.cells n).toList.getD m undef = z.cells.toList.getD (m % i.size) undef := by
      have hlt : m < (Builtin.zeroCells z.cells n).size := by simp [Builtin.zeroCells, hzs]; exact hm
      rw [List.getD_eq_getElem?_getD, List.getElem?_eq_getElem (by simpa using hlt)]
      have hmz : m % i.size < z.cells.size := by omega
      simp [Builtin.zeroCells, hzs, List.getD_eq_getElem?_getD]
      rw [getElem!_pos z.cells _ hmz]; simp [hmz]
    rw [e1, e2]
    exact hflat.2 _ (by omega)
  refine ⟨i, z, hi, hz, hc, hp, hzs, hzz, hL, one_of_cellsB hL (fun y hy => by rw [List.eq_of_mem_replicate hy]; exact hcb)⟩

theorem clearV_sound {σ : Mem} {ts : Array TypeId} {t ty : TypeId} {x : PV} {v : Value} {k : PV → Mem → Prop} (h0 : ts[0]? = some t)
    (hm : SatM K σ w) (hx : VRel K w x v) (h : clearV P t x σ k) :
    ∃ pv r σ' w', (Builtin.clear_ ts ty #[v]).run P w = .ok r w' ∧ k pv σ' ∧ VRel K w' pv r ∧ SatM K σ' w' ∧ Ext σ K w σ' K w' := by
  unfold clearV at h
  split at h
  case h_2 => exact h.elim
  rename_i e he
  cases hx <;> (try exact h.elim)
  rename_i b sz i n o cap ho hc hsh
  obtain ⟨sz', es, fz, r, hl, h⟩ := h
  obtain ⟨hc0, ⟨hin, hfz⟩, hk⟩ := chk_spec h
  clear h
  simp only [Bool.and_eq_true, Nat.beq_eq] at hc0
  obtain ⟨⟨hsz, rfl⟩, hz0⟩ := hc0
  obtain ⟨inf, z, hi, hz, hce, hp, hzs, hzz, hL, hone⟩ := zeroCells_rel (K := K) (w := w) hz0 n
  have hszi : sz' = inf.size := by rw [hsz, hce]
  subst hszi
  have htup : VRel K w (.tup []) (.tuple #[]) := .tup [] [] rfl (fun i hi => by simp at hi)
  have htup' : ∀ w' : World, VRel K w' (.tup []) (.tuple #[]) := fun w' => .tup [] [] rfl (fun i hi => by simp at hi)
  by_cases hn0 : n = 0
  · subst hn0
    have e2 : es.take i ++ List.replicate 0 (zeroV P e) ++ es.drop (i + 0) = es := by simp
    rw [e2] at hk
    refine ⟨_, .tuple #[], _, w, ?_, hk, htup, hm.perm hl.perm, Ext.perm (Ext.refl σ K w) (.refl _) hl.perm⟩
    simp [Builtin.clear_, h0, run_underlying he]
  · have ho' := ho (.inl hn0)
    subst ho'
    obtain ⟨w', g1, g2, g3⟩ := over_row (P := P) (ys := List.replicate n (zeroV P e)) (i := i) hm hl (by simp; exact hin) hfz hzz hL hone
    simp only [List.length_replicate] at g2 g3
    refine ⟨_, .tuple #[], _, w', ?_, hk, htup' w', g2, g3⟩
    obtain ⟨m, rfl⟩ : ∃ m, n = m + 1 := ⟨n - 1, by omega⟩
    simp only [Builtin.clear_, h0, Array.getElem?_singleton, if_true, Sem.run_bind, run_underlying he, Result.andThen_ok, run_zeroValue hi hz, g1, Sem.run_pure]

theorem makeV_sound {σ : Mem} {t : TypeId} {l c : PV} {u v : Value} {k : PV → Mem → Prop}
    (hm : SatM K σ w) (hx : VRel K w l u) (hy : VRel K w c v) (h : makeV P t l c σ k) :
    ∃ pv r σ' w', (Instr.makeSlice t u v).run P w = .ok r w' ∧ k pv σ' ∧ VRel K w' pv r ∧ SatM K σ' w' ∧ Ext σ K w σ' K w' := by
  unfold makeV at h
  split at h
  case h_2 => exact h.elim
  rename_i e he
  cases hx <;> (try exact h.elim)
  cases hy <;> (try exact h.elim)
  rename_i kl n kc m
  obtain ⟨hz0, hlit⟩ := chk_spec h
  obtain ⟨⟨h1, h2, h3, h4⟩, hk⟩ := litN_spec hlit
  obtain ⟨i, z, hi, hz, hce, hp, hzs, hzz, hL, hone⟩ := zeroCells_rel (K := K) (w := w) hz0 n.toNat
  have hby : P.bytesOf e = i.bytes := by simp [Program.bytesOf, hi]
  rw [hby] at h4
  rw [hce] at hk
  have hr := run_make (P := P) w t e i z he hi hz kl kc n m h1 h2 h4 h3
  have hsz : (madeCells z.cells (m.toNat * i.size)).size = m.toNat * i.size := size_madeCells _ _
  have hle : n.toNat * i.size ≤ m.toNat * i.size := Nat.mul_le_mul_right _ (by omega)
  refine ⟨_, _, _, _, hr, (hk.all n.toNat (by omega)).all w.heap.size (fresh_new hm), ?_, new_row hm e i.size (List.replicate n.toNat (zeroV P e)) 0 (Nat.zero_le _) _ hzz ?_ ?_, ext_alloc hm _ _⟩
  · exact VRel.rsl (w := w.alloc _) w.heap.size _ 0 _ 0 _ (fun _ => by simp) (by omega) ⟨e, _, shape_new e _, by rw [hsz]; omega⟩
  · rw [hsz]; simpa using hle
  · intro q hq
    simp only [List.length_replicate] at hq
    have := hL.2 q (by rw [flats_length hzz]; simpa using hq)
    have e1 : (madeCells z.cells (m.toNat * i.size)).getD q undef = (Builtin.zeroCells z.cells n.toNat).toList.getD q undef := by
      have hlt : q < (Builtin.zeroCells z.cells n.toNat).size := by simp [Builtin.zeroCells, hzs]; exact hq
      have hlt2 : q < (madeCells z.cells (m.toNat * i.size)).size := by rw [hsz]; omega
      rw [getD_toList, Array.getD_eq_getD_getElem?, Array.getD_eq_getD_getElem?, Array.getElem?_eq_getElem hlt, Array.getElem?_eq_getElem hlt2]
      simp [madeCells, Builtin.zeroCells]
    rw [e1]; exact this

/-! ### Slice literals -/
theorem fillE_seq {sz n : Nat} : ∀ (ps : List (Nat × PV)) (done rest : List PV), seqOk sz n done.length ps = true → rest.length = ps.length →
    fillE sz (done ++ rest) ps = some (done ++ ps.map Prod.snd) ∧ done.length + ps.length = n
  | [], done, rest, h, hl => by
    obtain rfl : rest = [] := List.eq_nil_of_length_eq_zero hl
    exact ⟨by simp [fillE], by simpa [seqOk] using h⟩
  | (i, v) :: ps, done, [], h, hl => by simp at hl
  | (i, v) :: ps, done, r :: rest, h, hl => by
    simp only [seqOk, Bool.and_eq_true, Nat.beq_eq] at h
    obtain ⟨⟨⟨rfl, h2⟩, h3⟩, h4⟩ := h
    have ih := fillE_seq ps (done ++ [v]) rest (by simpa using h4) (by simpa using hl)
    refine ⟨?_, by simpa [Nat.add_comm, Nat.add_left_comm, Nat.add_assoc] using ih.2⟩
    have e1 : (Nat.beq v.flat.length sz && Nat.blt done.length (done ++ r :: rest).length && cellsB v) = true := by
      simp [h3, h2, Nat.blt_eq]
    rw [fillE, e1, cond_true]
    have e2 : (done ++ r :: rest).set done.length v = done ++ [v] ++ rest := by simp
    rw [e2, ih.1]; simp
theorem fillP_spec {sz n : Nat} {z : PV} {ps : List (Nat × PV)} {es : List PV} (h : fillP sz n z ps = some es) : fillE sz (List.replicate n z) ps = some es := by
  unfold fillP at h
  cases hs : seqOk sz n 0 ps with
  | false => simpa [hs] using h
  | true =>
    simp only [hs, cond_true, Option.some.injEq] at h
    subst h
    have hn : ps.length = n := by
      have := (fillE_seq (sz := sz) (n := n) ps [] (List.replicate ps.length z) hs (by simp)).2
      simpa using this
    subst hn
    simpa using (fillE_seq (sz := sz) ps [] (List.replicate ps.length z) hs (by simp)).1
theorem buildSlice_cells {t : TypeId} {n : Nat} {ps : List (Nat × PV)} {us : List (Nat × Value)} {k : Nat → List PV → Prop} (hl : ps.length = us.length)
    (hr : ∀ i, i < ps.length → (ps.getD i (0, .dead)).1 = (us.getD i (0, undef)).1 ∧ VRel K w (ps.getD i (0, .dead)).2 (us.getD i (0, undef)).2)
    (h : buildSliceV P t n ps k) : ∃ sz es cs e, k sz es ∧ 0 < sz ∧ (∀ y ∈ es, y.flat.length = sz) ∧ LRel K w (flats es) cs.toList ∧ es.length = n ∧
      (Instr.buildSlice t n us.toArray).run P w = .ok (.slice (some ⟨w.heap.size, 0, none⟩) n n) (w.alloc (.cells cs e)) := by
  unfold buildSliceV at h
  split at h
  case h_2 => exact h.elim
  rename_i hsl
  obtain ⟨e, he⟩ := isSliceB_spec hsl
  have hel : elemTy P t = e := by simp [elemTy, he]
  rw [hel] at h
  obtain ⟨hc0, h4⟩ := chk_spec h
  simp only [Bool.and_eq_true, Nat.ble_eq] at hc0
  obtain ⟨h1, h0⟩ := hc0
  split at h4
  case h_2 => exact h4.elim
  rename_i es hes
  have hes := fillP_spec hes
  obtain ⟨i, z, hi, hz, hce, hzs, h2, _, hzv⟩ := zeroOk_spec h0
  rw [hce] at h1 h4 hes
  · have hflat := flat_LRel (K := K) (w := w) (ofV_rel z) ⟨z, rfl, rfl⟩
    rw [← hzv] at hflat
    have h3 : (zeroV P e).flat.length = i.size := by rw [hflat.1]; simpa using hzs
    have hzz : ∀ y ∈ List.replicate n (zeroV P e), y.flat.length = i.size := fun y hy => by rw [List.eq_of_mem_replicate hy]; exact h3
    have hL : LRel K w (flats (List.replicate n (zeroV P e))) (madeCells z.cells (n * i.size)).toList := by
      refine ⟨by rw [flats_length hzz]; simp [madeCells], fun m hm => ?_⟩
      rw [flats_length hzz] at hm
      simp only [List.length_replicate] at hm
      have em : m = m / i.size * i.size + m % i.size := by rw [Nat.mul_comm]; exact (Nat.div_add_mod m _).symm
      have hq : m / i.size < n := (Nat.div_lt_iff_lt_mul h2).2 hm
      have hmo : m % i.size < i.size := Nat.mod_lt _ h2
      have e1 : (flats (List.replicate n (zeroV P e))).getD m .dead = (zeroV P e).flat.getD (m % i.size) .dead := by
        conv => lhs; rw [em]
        rw [flats_getD hzz _ _ (by simpa using hq) hmo]
        simp [List.getD_eq_getElem?_getD, hq]
      have e2 : (madeCells z.cells (n * i.size)).toList.getD m undef = z.cells.toList.getD (m % i.size) undef := by
        have hlt : m < (madeCells z.cells (n * i.size)).size := by simp [madeCells]; exact hm
        rw [List.getD_eq_getElem?_getD, List.getElem?_eq_getElem (by simpa using hlt)]
        have hmz : m % i.size < z.cells.size := by omega
        simp [madeCells, hzs, List.getD_eq_getElem?_getD]
        rw [getElem!_pos z.cells _ hmz]; simp [hmz]
      rw [e1, e2]
      exact hflat.2 _ (by omega)
    obtain ⟨ws, f1, f2, f3, f4⟩ := fillE_sound ps us _ _ es hl hr hzz hL hes
    refine ⟨i.size, es, ws, e, h4, h2, f4, f2, by simpa using f3, ?_⟩
    have hs : (sizeOf e).run P w = .ok i.size w := by rw [← hce]; exact run_sizeOf (by omega)
    have hn : ¬ 16777216 < n * i.size := by omega
    by_cases hn0 : n * i.size = 0
    · have hn00 : n = 0 := by
        rcases Nat.mul_eq_zero.1 hn0 with h | h
        · exact h
        · omega
      subst hn00
      have f1' : Instr.fill (fun j => some (j * i.size, i.size)) #[] us = some ws := by simpa [madeCells, Array.range_zero'] using f1
      simp [Instr.buildSlice, run_underlying he, hs, f1', newRow, Array.range_zero']
    · have f1' : Instr.fill (fun j => some (j * i.size, i.size)) ((Array.range (n * i.size)).map (z.cells[· % z.cells.size]!)) us = some ws := f1
      simp [Instr.buildSlice, run_underlying he, hs, hn, run_zeroValue hi hz, f1', newRow]
      exact fun h => absurd h hn0

/-- Cells that are owned become cells that nobody writes. -/
theorem freeze_row {r : Mem} {b sz : Nat} {es : List PV} {fz : Nat} (hm : SatM K (⟨b, .row sz es fz⟩ :: r) w) :
    ∃ K', SatM K' (⟨b, .row sz es es.length⟩ :: r) w ∧ Ext (⟨b, .row sz es fz⟩ :: r) K w (⟨b, .row sz es es.length⟩ :: r) K' w ∧
      ∀ i n v, i + n ≤ es.length → VRel K w (.rsl b sz i n) v → VRel K' w (.sl sz ((es.drop i).take n)) v := by
  have hro : RowOk K w b sz es fz := hm.blk _ List.mem_cons_self
  obtain ⟨cs, ty, g1, g2, g3⟩ := hro.cells
  have hmono : ∀ {p : PV} {v : Value}, VRel K w p v → VRel (fun b' o => K b' o ∨ (b' = b ∧ o < es.length * sz)) w p v :=
    fun h => h.mono (fun _ _ h => ⟨.inl h, rfl⟩) (fun _ _ h => h)
  have hnd := hm.nodup
  rw [List.map_cons, List.nodup_cons] at hnd
  refine ⟨fun b' o => K b' o ∨ (b' = b ∧ o < es.length * sz), ⟨fun b' o h => ?_, by rw [List.map_cons, List.nodup_cons]; exact hnd, fun k hk => ?_⟩, ?_, fun i n v hin hv => ?_⟩
  · rcases h with h | ⟨rfl, _⟩
    · exact hm.kin _ _ h
    · exact (Array.getElem?_eq_some_iff.1 g1).1
  · rcases List.mem_cons.1 hk with rfl | hk
    · show RowOk _ w b sz es es.length
      refine ⟨Nat.le_refl _, fun o ho => ?_, hro.hz, cs, ty, g1, g2, fun i j hi hj => hmono (g3 i j hi hj)⟩
      rcases ho with ho | ⟨_, ho⟩
      · exact Nat.lt_of_lt_of_le (hro.ex o ho) (Nat.mul_le_mul_right _ hro.le)
      · exact ho
    · have hne : k.b ≠ b := fun e => hnd.1 (List.mem_map.2 ⟨k, hk, e⟩)
      exact (hm.blk k (List.mem_cons_of_mem _ hk)).move rfl (fun o ho => ho.resolve_right fun h => hne h.1) (fun _ _ h => ⟨.inl h, rfl⟩) (fun _ _ h => h)
  · refine ⟨rfl, rfl, rfl, Nat.le_refl _, fun _ _ h => h, fun _ _ _ => rfl, fun _ _ h => ⟨.inl h, rfl⟩, fun k hk => .inl ?_, fun b' o h => ?_⟩
    · rcases List.mem_cons.1 hk with rfl | hk
      · exact ⟨_, List.mem_cons_self, rfl⟩
      · exact ⟨k, List.mem_cons_of_mem _ hk, rfl⟩
    · rcases h with h | ⟨rfl, _⟩
      · exact .inl h
      · exact .inr (.inl ⟨_, List.mem_cons_self, rfl⟩)
  · have hlen : ((es.drop i).take n).length = n := by simp; omega
    obtain ⟨o, cap, rfl, ho, hc⟩ : ∃ o cap, v = .slice (some ⟨b, o, none⟩) n cap ∧ (n ≠ 0 ∨ i = 0 → o = i * sz) ∧ n ≤ cap := by
      cases hv with
      | rsl _ _ _ _ o cap ho hc hs => exact ⟨o, cap, rfl, ho, hc⟩
    by_cases hn0 : n = 0
    · subst hn0
      simp only [List.take_zero]
      exact .sl0 _ _ _
    · have ho' := ho (.inl hn0)
      subst ho'
      have := VRel.sl (K := fun b' o => K b' o ∨ (b' = b ∧ o < es.length * sz)) (w := w) sz ((es.drop i).take n) b (i * sz) cap (by omega) (fun a j => cs.getD ((i + a) * sz + j) undef)
        (fun e he => hro.hz e (List.mem_of_mem_drop (List.mem_of_mem_take he)))
        (fun a j ha hj => by
          rw [hlen] at ha
          have hb : (i + a + 1) * sz ≤ es.length * sz := Nat.mul_le_mul_right _ (by omega)
          rw [Nat.add_mul, Nat.add_mul] at hb
          rw [Nat.add_mul]
          have hlt : i * sz + a * sz + j < cs.size := by omega
          exact ⟨.inr ⟨rfl, by omega⟩, by simp [World.cell?, g1, hlt, Array.getD]⟩)
        (fun a j ha hj => by
          rw [hlen] at ha
          have e1 : (((es.drop i).take n).getD a .dead) = es.getD (i + a) .dead := by simp [List.getD_eq_getElem?_getD, ha]
          rw [e1]
          exact hmono (g3 (i + a) j (by omega) hj))
      rw [hlen] at this
      exact this
end Go.Eng
