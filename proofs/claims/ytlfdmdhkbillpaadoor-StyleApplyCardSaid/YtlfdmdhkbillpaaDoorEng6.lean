/- The engine, part 6: append, copy, clear, make, literals in memory, strings that are gone through; what is owned becomes what nobody writes. -/
import Derived.Test.YtlfdmdhkbillpaaDoorEng5
namespace Go.Eng
open Go

variable {P : Program} {K : Kn} {w : World}

theorem isSliceB_spec {t : TypeId} (h : isSliceB P t = true) : ∃ e, P.underlying t = some (.slice e) := by
  unfold isSliceB at h
  split at h
  · exact ⟨_, by assumption⟩
  · cases h

theorem run_app_room {ts : Array TypeId} {t t2 e ty : TypeId} {i : TypeInfo} (h0 : ts[0]? = some t) (h1 : ts[1]? = some t2) (ht : P.underlying t = some (.slice e)) (ht2 : isSliceB P t2 = true)
    (hi : P.info? e = some i) (base : Option Addr) (n cap m c : Nat) (a : Option Addr) (news : List Value) (hf : (Builtin.firstCells i.size m (.slice a m c)).run P w = .ok news.toArray w) (hroom : n + m ≤ cap) {w' : World}
    (hst : (match base with | some a => storeCells (a.add (n * i.size)) news | none => pure () : Sem Unit).run P w = .ok () w') :
    (Builtin.append_ ts ty #[.slice base n cap, .slice a m c]).run P w = .ok (.slice base (n + m) cap) w' := by
  obtain ⟨e2, he2⟩ := isSliceB_spec ht2
  cases base with
  | none => simp at hst; subst hst; simp [Builtin.append_, h0, h1, run_underlying ht, run_underlying he2, sizeOf, typeInfo, hi, Builtin.lenOf, hroom, hf]
  | some b => simp only at hst; simp [Builtin.append_, h0, h1, run_underlying ht, run_underlying he2, sizeOf, typeInfo, hi, Builtin.lenOf, hroom, hf, hst]

theorem run_app_grow {ts : Array TypeId} {t t2 e ty : TypeId} {i : TypeInfo} {z : Value} (h0 : ts[0]? = some t) (h1 : ts[1]? = some t2) (ht : P.underlying t = some (.slice e)) (ht2 : isSliceB P t2 = true)
    (hi : P.info? e = some i) (hz : i.zero = some z) (base : Option Addr) (n cap m c : Nat) (a : Option Addr) (olds news : List Value)
    (hfo : (Builtin.firstCells i.size n (.slice base n cap)).run P w.drew = .ok olds.toArray w.drew)
    (hf : (Builtin.firstCells i.size m (.slice a m c)).run P w.drew = .ok news.toArray w.drew) (hg : cap < n + m) (h63 : ((n + m : Nat) : Int) ≤ 9223372036854775807) (hfit : Builtin.nextslicecap (n + m) cap * i.bytes ≤ 281474976710656) :
    (Builtin.append_ ts ty #[.slice base n cap, .slice a m c]).run P w =
      .ok (.slice (some ⟨w.heap.size, 0, none⟩) (n + m) (grownCap w (n + m) cap e)) (w.drew.alloc (.cells (olds.toArray ++ news.toArray ++ Builtin.zeroCells z.cells (grownCap w (n + m) cap e - (n + m))) e)) := by
  obtain ⟨e2, he2⟩ := isSliceB_spec ht2
  have hn : ¬ (n + m ≤ cap) := by omega
  have h63' : ¬ (9223372036854775807 < ((n : Int) + (m : Int))) := by omega
  have h48' : ¬ (281474976710656 < Builtin.nextslicecap (n + m) cap * i.bytes) := by omega
  simp [Builtin.append_, h0, h1, run_underlying ht, run_underlying he2, sizeOf, typeInfo, zeroValue, hi, hz, Builtin.lenOf, hn, h63', h48', Question.forced, hf, hfo, newRow, grownCap]
  congr 2
  apply Array.ext'
  simp [List.append_assoc]

theorem zeroOk_spec {e : TypeId} (h : zeroOk P e = true) : ∃ i z, P.info? e = some i ∧ i.zero = some z ∧ P.cellsOf e = i.size ∧ z.cells.size = i.size ∧ 0 < i.size ∧ 0 < i.bytes ∧ zeroV P e = ofV z := by
  unfold zeroOk at h
  simp only [Bool.and_eq_true, Nat.beq_eq, Nat.blt_eq] at h
  obtain ⟨⟨⟨h1, h2⟩, h3⟩, h4⟩ := h
  obtain ⟨i, z, hi, hz, hv⟩ := zeroV_rel h2
  have hc : P.cellsOf e = i.size := by simp [Program.cellsOf, hi]
  have hb : P.bytesOf e = i.bytes := by simp [Program.bytesOf, hi]
  refine ⟨i, z, hi, hz, hc, ?_, by omega, by omega, hv⟩
  have := (flat_LRel (K := fun _ _ => False) (w := default) (ofV_rel z) ⟨z, rfl, rfl⟩).1
  rw [hv] at h1
  simp only [Array.length_toList] at this
  omega

/-- What elemsOf_sound tells of a source. -/
theorem first_of {σ : Mem} {sz : Nat} {ys : List PV} {a : Option Addr} {cap : Nat} {vs : List Value} {b o : Nat} (ha : a = some ⟨b, o, none⟩) (hL : LRel K w (flats ys) vs) (hz : ∀ y ∈ ys, y.flat.length = sz)
    (hc : ∀ j, j < vs.length → w.cell? ⟨b, o + j, none⟩ = some (vs.getD j undef)) (_ : σ = σ) : (Builtin.firstCells sz ys.length (.slice a ys.length cap)).run P w = .ok vs.toArray w := by
  subst ha
  have hl : vs.length = ys.length * sz := by rw [← hL.1, flats_length hz]
  exact run_firstCells_some (P := P) w sz ys.length ⟨b, o, none⟩ ys.length cap vs hl (fun j v hj => by
    rw [addr_add]
    have hlt : j < vs.length := (List.getElem?_eq_some_iff.1 hj).1
    rw [hc j hlt]
    simp [List.getD_eq_getElem?_getD, hj])

theorem one_of_cellsB {ys : List PV} {vs : List Value} (hL : LRel K w (flats ys) vs) (hc : ∀ y ∈ ys, cellsB y = true) : ∀ v ∈ vs, v.oneCell' = true := by
  intro v hv
  obtain ⟨j, hj, rfl⟩ := List.getElem_of_mem hv
  have h1 := hL.2 j (by rw [hL.1]; exact hj)
  have hj' : j < (flats ys).length := by rw [hL.1]; exact hj
  have h2 : (flats ys).getD j .dead = (flats ys)[j] := by simp [List.getD_eq_getElem?_getD, hj']
  have h3 : vs.getD j undef = vs[j] := by simp [List.getD_eq_getElem?_getD, hj]
  rw [h2, h3] at h1
  have h4 := List.getElem_mem hj'
  obtain ⟨y, hy, hm⟩ := List.mem_flatMap.1 h4
  have h5 := List.all_eq_true.1 (hc y hy) _ hm
  generalize (flats ys)[j] = q at h1 h5
  generalize vs[j] = u at h1 ⊢
  cases h1 <;> first | rfl | exact h5 | cases h5

theorem flats_append (xs ys : List PV) : flats (xs ++ ys) = flats xs ++ flats ys := by simp [flats]

theorem ownSl_rel {e b sz n cap : Nat} (hc : n ≤ cap) (hs : ∃ m, w.shape? b = some (e, m) ∧ cap * sz ≤ m) : VRel K w (ownSl P e b sz n) (.slice (some ⟨b, 0, none⟩) n cap) := by
  obtain ⟨m, h1, h2⟩ := hs
  unfold ownSl
  split
  · split
    · exact .bsl _ _ _ _ hc ⟨m, h1, by omega⟩
    · exact .rsl _ _ 0 _ 0 _ (fun _ => by simp) hc ⟨e, m, h1, by omega⟩
  · exact .rsl _ _ 0 _ 0 _ (fun _ => by simp) hc ⟨e, m, h1, by omega⟩
theorem append_own {σ : Mem} {ts : Array TypeId} {t t2 e ty : TypeId} (h0 : ts[0]? = some t) (h1 : ts[1]? = some t2) (ht2 : isSliceB P t2 = true) (he : P.underlying t = some (.slice e)) (hm : SatM K σ w) {i : TypeInfo} {z : Value}
    (hi : P.info? e = some i) (hz : i.zero = some z) (hzs : z.cells.size = i.size) (hby : 0 < i.bytes) {ys : List PV} {a : Option Addr} {cap' : Nat} {news : List Value} (hL : LRel K w (flats ys) news)
    (hf : (Builtin.firstCells i.size ys.length (.slice a ys.length cap')).run P w = .ok news.toArray w) (hfd : (Builtin.firstCells i.size ys.length (.slice a ys.length cap')).run P w.drew = .ok news.toArray w.drew) (hnl : news.length = ys.length * i.size)
    (hone : ∀ v ∈ news, v.oneCell' = true) (hzi : ∀ y ∈ ys, y.flat.length = i.size) (hdrew : SatM K σ w.drew) {b fz : Nat} {es : List PV} {r : Mem} (hl : Look σ b (.row i.size es fz) r) {cap e' mm : Nat} (q1 : w.shape? b = some (e', mm)) (q2 : 0 + cap * i.size ≤ mm) (hc : es.length ≤ cap)
    (hb : (es.length + ys.length) * i.bytes ≤ 140737488355328) :
    ∃ b' cap2 w', (Builtin.append_ ts ty #[.slice (some ⟨b, 0, none⟩) es.length cap, .slice a ys.length cap']).run P w = .ok (.slice (some ⟨b', 0, none⟩) (es.length + ys.length) cap2) w' ∧ (b' = b ∨ ∀ z ∈ σ, z.b ≠ b') ∧ es.length + ys.length ≤ cap2 ∧
      (∃ e2 m, w'.shape? b' = some (e2, m) ∧ 0 + cap2 * i.size ≤ m ∧ (e2 = e' ∨ e2 = e)) ∧ SatM K (⟨b', .row i.size (es ++ ys) fz⟩ :: r) w' ∧ Ext σ K w (⟨b', .row i.size (es ++ ys) fz⟩ :: r) K w' := by
  have hro : RowOk K w b i.size es fz := hm.blk _ hl.mem
  obtain ⟨cs, ty', g1, g2, g3⟩ := hro.flats
  have hmm : mm = cs.size := by simp [World.shape?, g1] at q1; exact q1.2.symm
  subst hmm
  have hfl := flats_length hro.hz
  have hzz : ∀ x ∈ es ++ ys, x.flat.length = i.size := fun x hx => by
    rcases List.mem_append.1 hx with h | h
    · exact hro.hz x h
    · exact hzi x h
  by_cases hroom : es.length + ys.length ≤ cap
  · have hbd : (es.length + ys.length) * i.size ≤ cap * i.size := Nat.mul_le_mul_right _ hroom
    rw [Nat.add_mul] at hbd
    have hst := run_storeCells_at P b (es.length * i.size) ty' news 0 cs w g1 (by omega) hone
    simp only [Nat.add_zero] at hst
    have hfit : es.length * i.size + news.length ≤ cs.toList.length := by simp; omega
    have hr := run_app_room (ty := ty) h0 h1 he ht2 hi (some ⟨b, 0, none⟩) es.length cap ys.length cap' a news hf hroom (by simp only [addr_add, Nat.zero_add]; exact hst)
    obtain ⟨s1, s2⟩ := row_written (es' := es ++ ys) (cs' := (splice cs.toList (es.length * i.size) news).toArray) hm hl g1 (by simp [length_splice _ _ _ hfit]) hzz (by have := hro.le; simp; omega) (by simp [Nat.add_mul]; omega)
      (fun m hmm => by
        simp only [List.length_append, Nat.add_mul] at hmm
        rw [getD_toArray, getD_splice _ _ _ _ hfit, flats_append]
        by_cases c1 : m < es.length * i.size
        · rw [if_neg (by omega), getD_toList]
          have := g3 m c1
          simpa [List.getD_eq_getElem?_getD, List.getElem?_append, hfl, c1] using this
        · rw [if_pos (by omega)]
          have := hL.2 (m - es.length * i.size) (by rw [flats_length hzi]; omega)
          simpa [List.getD_eq_getElem?_getD, List.getElem?_append, hfl, c1] using this)
      (fun o ho => by
        have h6 : fz * i.size ≤ es.length * i.size := Nat.mul_le_mul_right _ hro.le
        have : (splice cs.toList (es.length * i.size) news)[o]? = cs.toList[o]? := by
          simp only [splice]
          rw [List.getElem?_append_left (by simp at hfit ⊢; omega), List.getElem?_append_left (by simp at hfit ⊢; omega), List.getElem?_take, if_pos (by omega)]
        simpa using this)
    exact ⟨b, cap, _, hr, .inl rfl, hroom, ⟨e', cs.size, setRow_shape g1 (by have := length_splice _ _ _ hfit; simpa [splice] using this) q1, q2, .inl rfl⟩, s1, s2⟩
  · have hb2 : (es.length + ys.length) * 1 ≤ (es.length + ys.length) * i.bytes := Nat.mul_le_mul_left _ hby
    have holds : LRel K w.drew (flats es) ((List.range (es.length * i.size)).map fun n => cs.getD n undef) := ⟨by simp [hfl], fun n hn => by
      rw [hfl] at hn
      have := g3 n hn
      refine VRel.mono (w := w) (w' := w.drew) (fun _ _ h => ⟨h, rfl⟩) (fun _ _ h => h) ?_
      simpa [List.getD_eq_getElem?_getD, hn] using this⟩
    have hfo : (Builtin.firstCells i.size es.length (.slice (some ⟨b, 0, none⟩) es.length cap)).run P w.drew = .ok ((List.range (es.length * i.size)).map fun n => cs.getD n undef).toArray w.drew :=
      first_of (σ := σ) rfl holds hro.hz (fun j hj => by
        simp only [List.length_map, List.length_range] at hj
        have hlt : j < cs.size := by omega
        show w.cell? _ = _
        simp [World.cell?, g1, hlt, List.getD_eq_getElem?_getD, hj, Array.getD]) rfl
    have hr := run_app_grow (ty := ty) h0 h1 he ht2 hi hz (some ⟨b, 0, none⟩) es.length cap ys.length cap' a _ news hfo hfd (by omega) (by omega) (growslice_fits (by omega) hb)
    have hge := grownCap_ge w (es.length + ys.length) cap e
    have hsz : (((List.range (es.length * i.size)).map fun n => cs.getD n undef).toArray ++ news.toArray ++ Builtin.zeroCells z.cells (grownCap w (es.length + ys.length) cap e - (es.length + ys.length))).size = grownCap w (es.length + ys.length) cap e * i.size := by
      simp only [Array.size_append, List.size_toArray, size_zeroCells, List.length_map, List.length_range, hnl, hzs]
      rw [← Nat.add_mul, ← Nat.add_mul]; congr 1; omega
    have hle : (es.length + ys.length) * i.size ≤ grownCap w (es.length + ys.length) cap e * i.size := Nat.mul_le_mul_right _ hge
    have hnew := new_row hdrew e i.size (es ++ ys) fz (by have := hro.le; simp; omega) (((List.range (es.length * i.size)).map fun n => cs.getD n undef).toArray ++ news.toArray ++ Builtin.zeroCells z.cells (grownCap w (es.length + ys.length) cap e - (es.length + ys.length))) hzz (by rw [hsz]; simpa using hle)
      (fun m hmm => by
        simp only [List.length_append, Nat.add_mul] at hmm hle
        have e1 : (((List.range (es.length * i.size)).map fun n => cs.getD n undef).toArray ++ news.toArray ++ Builtin.zeroCells z.cells (grownCap w (es.length + ys.length) cap e - (es.length + ys.length))).getD m undef =
            (((List.range (es.length * i.size)).map fun n => cs.getD n undef) ++ news).getD m undef := by
          have hlt : m < (((List.range (es.length * i.size)).map fun n => cs.getD n undef).toArray ++ news.toArray).size := by simp; omega
          have hlt2 : m < (((List.range (es.length * i.size)).map fun n => cs.getD n undef).toArray ++ news.toArray ++ Builtin.zeroCells z.cells (grownCap w (es.length + ys.length) cap e - (es.length + ys.length))).size := by rw [hsz]; omega
          have hlt3 : m < (((List.range (es.length * i.size)).map fun n => cs.getD n undef) ++ news).length := by simp; omega
          rw [Array.getD_eq_getD_getElem?, Array.getElem?_append_left hlt]
          simp [List.getD_eq_getElem?_getD, ← List.getElem?_toArray]
        rw [e1, flats_append]
        by_cases c1 : m < es.length * i.size
        · have := holds.2 m (by rw [hfl]; exact c1)
          simpa [List.getD_eq_getElem?_getD, List.getElem?_append, hfl, c1] using this
        · have := hL.2 (m - es.length * i.size) (by rw [flats_length hzi]; omega)
          have := VRel.mono (w := w) (w' := w.drew) (fun _ _ h => ⟨h, rfl⟩) (fun _ _ h => h) this
          simpa [List.getD_eq_getElem?_getD, List.getElem?_append, hfl, c1] using this)
    have hsub : (⟨w.drew.heap.size, Cont.row i.size (es ++ ys) fz⟩ :: r : Mem).Sublist (⟨w.drew.heap.size, .row i.size (es ++ ys) fz⟩ :: ⟨b, .row i.size es fz⟩ :: r) := List.Sublist.cons_cons _ (List.sublist_cons_self _ _)
    have hperm : (⟨w.drew.heap.size, .row i.size (es ++ ys) fz⟩ :: σ : Mem).Perm (⟨w.drew.heap.size, .row i.size (es ++ ys) fz⟩ :: ⟨b, .row i.size es fz⟩ :: r) := (hl.perm).cons _
    exact ⟨w.drew.heap.size, _, _, hr, .inr (fresh_new hdrew), hge, ⟨e, _, shape_new e _, by rw [hsz]; omega, .inr rfl⟩, (hnew.perm hperm).drop hsub, ((Ext.drawn σ K w _).trans ((ext_alloc hdrew _ _).perm (.refl _) hperm)).trans (Ext.drop hsub)⟩

theorem appendV_sound {σ : Mem} {ts : Array TypeId} {t t2 ty : TypeId} {s x : PV} {u v : Value} {k : PV → Mem → Prop} (h0 : ts[0]? = some t) (h1 : ts[1]? = some t2) (ht2 : isSliceB P t2 = true)
    (hm : SatM K σ w) (hs : VRel K w s u) (hx : VRel K w x v) (h : appendV P t s x σ k) :
    ∃ pv r σ' w', (Builtin.append_ ts ty #[u, v]).run P w = .ok r w' ∧ k pv σ' ∧ VRel K w' pv r ∧ SatM K σ' w' ∧ Ext σ K w σ' K w' := by
  unfold appendV at h
  split at h
  case h_2 => exact h.elim
  rename_i e he
  obtain ⟨sz, ys, hk0, _, ⟨a, cap', rfl, hsrc⟩, hzy⟩ := elemsOf_sound hm hx h
  obtain ⟨hc0, hcy0, hk⟩ := chk_spec hk0
  clear hk0 h
  simp only [Bool.and_eq_true, Nat.beq_eq] at hc0
  obtain ⟨hys, hpos⟩ := hc0
  have hcy := List.all_eq_true.1 hcy0
  clear hcy0
  obtain ⟨i, z, hi, hz, hce, hzs, hpos, hby, hzv⟩ := zeroOk_spec hpos
  rw [hce] at hys hk
  -- the source's cells, here and behind a draw
  have src : ∃ news : List Value, LRel K w (flats ys) news ∧ (Builtin.firstCells i.size ys.length (.slice a ys.length cap')).run P w = .ok news.toArray w ∧
      (Builtin.firstCells i.size ys.length (.slice a ys.length cap')).run P w.drew = .ok news.toArray w.drew ∧ news.length = ys.length * i.size := by
    by_cases hy0 : ys = []
    · subst hy0
      have hf0 : ∀ w : World, (Builtin.firstCells i.size 0 (.slice a 0 cap')).run P w = .ok #[] w := fun w => by
        cases a with
        | none => rfl
        | some a => simp [Builtin.firstCells, loadCells, loadCellsFrom]
      exact ⟨[], ⟨rfl, fun i hi => by simp [flats] at hi⟩, hf0 w, hf0 w.drew, by simp⟩
    · obtain ⟨b, o, ha, vs, hL, hc⟩ := hsrc hy0
      have hsz : sz = i.size := hys
      subst hsz
      have hz' : ∀ y ∈ ys, y.flat.length = i.size := hzy
      exact ⟨vs, hL, first_of (σ := σ) ha hL hz' hc rfl, first_of (K := K) (w := w.drew) (σ := σ) ha ⟨hL.1, fun j hj => VRel.mono (w := w) (w' := w.drew) (fun _ _ h => ⟨h, rfl⟩) (fun _ _ h => h) (hL.2 j hj)⟩ hz' hc rfl, by rw [← hL.1, flats_length hz']⟩
  obtain ⟨news, hL, hf, hfd, hnl⟩ := src
  have hone := one_of_cellsB hL hcy
  have hzi : ∀ y ∈ ys, y.flat.length = i.size := fun y hy => by
    rw [← hys]; exact hzy y hy
  have hdrew : SatM K σ w.drew := hm.drawn _
  have hbyt : P.bytesOf e = i.bytes := by simp [Program.bytesOf, hi]
  rw [hbyt] at hk
  cases hs <;> (try exact hk.elim)
  case nils =>
    obtain ⟨hb, hk0⟩ := litN_spec hk
    have hk1 : ys = [] → k .nils σ := fun h => by subst h; exact hk0
    have hk2 : ys ≠ [] → ∀ b, (∀ z ∈ σ, z.b ≠ b) → k (ownSl P e b i.size ys.length) (⟨b, .row i.size ys 0⟩ :: σ) := fun h => by
      cases ys with
      | nil => exact absurd rfl h
      | cons y ys' => exact hk0.all
    by_cases hy0 : ys = []
    · subst hy0
      refine ⟨_, _, σ, w, run_app_room h0 h1 he ht2 hi none 0 0 0 cap' a news hf (by simp) (w' := w) ?_, hk1 rfl, .nils, hm, Ext.refl _ _ _⟩
      have : news = [] := List.eq_nil_of_length_eq_zero (by simpa using hnl)
      subst this
      rfl
    · have hm0 : 0 < ys.length := List.length_pos_iff.2 hy0
      have h63 : ((0 + ys.length : Nat) : Int) ≤ 9223372036854775807 := by
        have : ys.length * 1 ≤ ys.length * i.bytes := Nat.mul_le_mul_left _ hby
        omega
      have hr := run_app_grow (ty := ty) h0 h1 he ht2 hi hz none 0 0 ys.length cap' a [] news (by simp [Builtin.firstCells, loadCells, loadCellsFrom]) hfd (by omega) h63 (growslice_fits (by omega) (by simpa using hb))
      have hge := grownCap_ge w (0 + ys.length) 0 e
      simp only [Nat.zero_add] at hr hge
      generalize hG : grownCap w ys.length 0 e = G at hr hge
      have hsz : (([] : List Value).toArray ++ news.toArray ++ Builtin.zeroCells z.cells (G - ys.length)).size = G * i.size := by
        simp only [Array.size_append, List.size_toArray, size_zeroCells, List.length_nil, hnl, hzs, Nat.zero_add]
        rw [← Nat.add_mul]; congr 1; omega
      refine ⟨_, _, _, _, hr, hk2 hy0 w.drew.heap.size (fresh_new hdrew), ?_, new_row hdrew e i.size ys 0 (Nat.zero_le _) _ hzi ?_ ?_, (Ext.drawn σ K w _).trans (ext_alloc hdrew _ _)⟩
      · exact ownSl_rel (w := w.drew.alloc _) hge ⟨_, shape_new e _, by rw [hsz]; omega⟩
      · rw [hsz]; exact Nat.mul_le_mul_right _ (by omega)
      · intro n hn
        have := hL.2 n (by rw [flats_length hzi]; exact hn)
        have hn' : n < news.length := by rw [hnl]; exact hn
        have e1 : (([] : List Value).toArray ++ news.toArray ++ Builtin.zeroCells z.cells (G - ys.length)).getD n undef = news.getD n undef := by
          have hlt : n < (([] : List Value).toArray ++ news.toArray).size := by simpa using hn'
          rw [Array.getD_eq_getD_getElem?, Array.getElem?_append_left hlt]
          simp [List.getD_eq_getElem?_getD]
        rw [e1]
        exact VRel.mono (w := w) (w' := w.drew) (fun _ _ h => ⟨h, rfl⟩) (fun _ _ h => h) this
  case rsl b sz' i0 n o cap ho hc hsh =>
    obtain ⟨sz'', es, fz, r, hl, hk1⟩ := hk
    obtain ⟨hc1, hlit⟩ := chk_spec hk1
    obtain ⟨⟨rfl, rfl, hb⟩, hk2⟩ := litN_spec hlit
    clear hk1 hlit
    simp only [Bool.and_eq_true, Nat.beq_eq] at hc1
    obtain ⟨rfl, rfl⟩ := hc1
    have ho0 : o = 0 := by simpa using ho (.inr rfl)
    subst ho0
    obtain ⟨e', mm, q1, q2⟩ := hsh
    obtain ⟨b', cap2, w', g1, g2, g3, ⟨e2, m2, g4, g5, _⟩, g6, g7⟩ := append_own (ty := ty) h0 h1 ht2 he hm hi hz hzs hby hL hf hfd hnl hone hzi hdrew hl q1 q2 hc hb
    exact ⟨_, _, _, _, g1, hk2.all b' g2, .rsl _ _ 0 _ 0 _ (fun _ => by simp) g3 ⟨e2, m2, g4, g5⟩, g6, g7⟩
  case bsl e' b n cap hc hsh =>
    obtain ⟨sz'', es, fz, r, hl, hk1⟩ := hk
    obtain ⟨hc1, hlit⟩ := chk_spec hk1
    obtain ⟨⟨rfl, hb⟩, hk2⟩ := litN_spec hlit
    clear hk1 hlit
    simp only [Bool.and_eq_true, Nat.beq_eq] at hc1
    obtain ⟨⟨rfl, rfl⟩, hs1⟩ := hc1
    obtain ⟨mm, q1, q2⟩ := hsh
    obtain ⟨b', cap2, w', g1, g2, g3, ⟨e2, m2, g4, g5, g8⟩, g6, g7⟩ := append_own (ty := ty) h0 h1 ht2 he hm hi hz hzs hby hL hf hfd hnl hone hzi hdrew hl q1 (by rw [hs1]; omega) hc hb
    obtain rfl : e2 = e' := by rcases g8 with h | h <;> exact h
    exact ⟨_, _, _, _, g1, hk2.all b' g2, .bsl _ _ _ _ g3 ⟨m2, g4, by rw [hs1] at g5; omega⟩, g6, g7⟩
end Go.Eng
