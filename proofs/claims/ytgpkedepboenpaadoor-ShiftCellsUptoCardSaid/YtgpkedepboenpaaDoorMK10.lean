/- Texts put together: Grow, Concat, Dsk16. -/
import Derived.Shelf.Spec.SlicesGrow
import Derived.Test.YtgpkedepboenpaaDoorMW11
import Derived.Test.YtgpkedepboenpaaDoorMK8
/- slices.Grow of the nil slice, at cells. -/
section
namespace Go.Eng.YtgpkedepboenpaaDoor
open Go Go.Eng Go.Proofs
variable (W : World)
set_option linter.unusedSimpArgs false
set_option maxRecDepth 100000
set_option linter.unusedVariables false
def growRen : Go.Shelf.Ren := ⟨fun n => match n with | 4 => 161 | n => n, fun n => match n with | 0 => 0 | 3 => 3 | 4 => 4 | 9 => 9 | 20 => 20 | 22 => 22 | 25 => 78 | n => n, fun n => n⟩
theorem growLays : Go.Proofs.Lays8.n4 Tryd.prog growRen := {
  mixed := by kernel_rfl
  f4 := ⟨Tryd.f161.name, by kernel_rfl, Tryd.func161.trans (congrArg some (by kernel_rfl))⟩
  t0 := Tryd.underlying0
  a0 := Tryd.isAgg0
  z0 := Tryd.sizeOf0
  v0 := Tryd.zeroValue0
  t3 := Tryd.underlying3
  a3 := Tryd.isAgg3
  z3 := Tryd.sizeOf3
  v3 := Tryd.zeroValue3
  t4 := Tryd.underlying4
  a4 := Tryd.isAgg4
  z4 := Tryd.sizeOf4
  v4 := Tryd.zeroValue4
  t9 := Tryd.underlying9
  a9 := Tryd.isAgg9
  z9 := Tryd.sizeOf9
  v9 := Tryd.zeroValue9
  t20 := Tryd.underlying20
  a20 := Tryd.isAgg20
  z20 := Tryd.sizeOf20
  v20 := Tryd.zeroValue20
  t22 := Tryd.underlying22
  a22 := Tryd.isAgg22
  z22 := Tryd.sizeOf22
  v22 := Tryd.zeroValue22 }
theorem grow_ok (n : Nat) (hn : 0 < n) (hb : n * 32 ≤ 140737488355328) :
    ACalls Tryd.prog W 161 [.nils, .int .i64 n] [] (Gives (fun b : Nat => .rsl b 4 0 0) (fun b => [⟨b, .row 4 [] 0⟩]) (fun _ => True)) := by
  refine ⟨⟨_, Tryd.func161, by kernel_rfl, by kernel_rfl⟩, fun K w vs hl hr hm hp => ?_⟩
  obtain ⟨v0, v1, rfl⟩ : ∃ v0 v1, vs = [v0, v1] := by
    match vs, hl with
    | [a, b], _ => exact ⟨a, b, rfl⟩
  have h0 : VRel K w .nils v0 := hr 0 (by simp)
  have h1 : VRel K w (.int .i64 n) v1 := hr 1 (by simp)
  cases h0
  cases h1
  obtain ⟨i, z, hi, hz, hce, hpos, hzs, hzz, hL, hone⟩ := zeroCells_rel (P := Tryd.prog) (K := K) (w := w) (e := 78) (by kernel_rfl) 0
  have h4 : i.size = 4 := hce.symm.trans (by kernel_rfl)
  have h32 : i.bytes = 32 := by
    have : Tryd.prog.bytesOf 78 = i.bytes := by simp [Program.bytesOf, hi]
    exact this.symm.trans (by kernel_rfl)
  have hd : SatM K [] w.drew := ⟨hm.kin, hm.nodup, fun k hk => by cases hk⟩
  refine (Any8.slices_Grow_grow growLays i z hi hz hpos none 0 0 n [] w (Nat.le_refl _) (by omega) (by rw [h32]; omega) (by omega) (by simp) (fun _ => rfl) (fun a h => by cases h)).mono ?_
  rintro e w' ⟨rfl, rfl⟩
  have hG : 0 + n ≤ grownCap w (0 + n) 0 (growRen.t 25) := grownCap_ge w _ _ _
  generalize grownCap w (0 + n) 0 (growRen.t 25) = G at *
  have hsz : (([] : List Value).toArray ++ Builtin.zeroCells z.cells (0 + n - 0) ++ Builtin.zeroCells z.cells (G - (0 + n))).size = G * 4 := by
    simp [Builtin.zeroCells, hzs, h4]; omega
  refine ⟨_, .rsl w.drew.heap.size 4 0 0, [⟨w.drew.heap.size, .row 4 [] 0⟩], K, rfl, ⟨w.drew.heap.size, trivial, rfl, wkMem.rfl'⟩, ?_, new_row hd _ 4 [] 0 (Nat.zero_le _) _ (fun e he => by cases he) (by simp) (fun q hq => by simp at hq), (Ext.drawn [] K w _).trans (ext_alloc hd _ _)⟩
  exact VRel.rsl (w := w.drew.alloc _) w.drew.heap.size 4 0 0 0 G (fun _ => by simp) (Nat.zero_le _) ⟨_, _, shape_new _ _, by rw [hsz]; omega⟩
end Go.Eng.YtgpkedepboenpaaDoor
end

/- slices.Concat, of rows of cells. -/
section
namespace Go.Eng.YtgpkedepboenpaaDoor
open Go Go.Eng Go.Proofs
variable (W : World)
set_option linter.unusedSimpArgs false
set_option maxRecDepth 100000
set_option linter.unusedVariables false
set_option maxHeartbeats 8000000
theorem take_flat_le (rs : List (List Cell)) (i : Nat) : ((rs.take i).flatten).length ≤ rs.flatten.length := by
  conv => rhs; rw [← List.take_append_drop i rs]
  rw [List.flatten_append, List.length_append]; omega
theorem take_flat_succ {rs : List (List Cell)} {i : Nat} {r : List Cell} (h : rs[i]? = some r) : (rs.take (i + 1)).flatten = (rs.take i).flatten ++ r := by
  rw [List.take_add_one, h]; simp
theorem concat_ok (rs : List (List Cell)) (hr : rs.length ≤ 1000) (h0 : 0 < rs.flatten.length) (hl : rs.flatten.length ≤ 100000) :
    ACalls Tryd.prog W 133 [.sl 1 (rs.map encRow)] [] (Gives (fun b : Nat => .rsl b 4 0 rs.flatten.length) (fun b => [⟨b, .row 4 (rs.flatten.map encCell) 0⟩]) (fun _ => True)) := by
  have hg := grow_ok W rs.flatten.length h0 (by omega)
  have hrl : (rs.map encRow).length = rs.length := List.length_map ..
  refine acalls_of_vc (drawOk W) Tryd.func133 rfl (by decide) (by decide) rfl ?_
  (refine g0_ ?_; repeat ((first | refine n1_ fun b_ => ?_ | refine n2_ fun b_ => ?_ | refine n3_ fun b_ pre_ => ?_ | refine Nat1.mk fun q_ hq_ => ?_ | refine em_ fun x_ hx_ => ?_ | refine Elem1.mk fun e_ he_ => ?_); refine g0_ ?_))
  refine' loopI (α := Nat) (fun i => [(11, .int .i64 i), (3, .int .i64 (rs.take i).flatten.length)]) [(0, _), (9, _), (10, _)] (fun i => []) (fun i => i ≤ rs.length) (fun i => rs.length - i) 0 ?_ ?_
  · exact Nat.zero_le _
  rintro i hi
  have hti := take_flat_le rs i
  (refine g0_ ?_; repeat ((first | refine n1_ fun b_ => ?_ | refine n2_ fun b_ => ?_ | refine n3_ fun b_ pre_ => ?_ | refine Nat1.mk fun q_ hq_ => ?_ | refine em_ fun x_ hx_ => ?_ | refine Elem1.mk fun e_ he_ => ?_); refine g0_ ?_))
  refine brec ?_; intro c_ h1; (try rw [h1]); cases c_ <;> replace h1 := nm_ h1
  · obtain rfl : i = rs.length := by omega
    rw [List.take_length]
    (refine g0_ ?_; repeat ((first | refine n1_ fun b_ => ?_ | refine n2_ fun b_ => ?_ | refine n3_ fun b_ pre_ => ?_ | refine Nat1.mk fun q_ hq_ => ?_ | refine em_ fun x_ hx_ => ?_ | refine Elem1.mk fun e_ he_ => ?_); refine g0_ ?_))
    refine ACalls.give hg ?_
    rintro b -
    (refine g0_ ?_; repeat ((first | refine n1_ fun b_ => ?_ | refine n2_ fun b_ => ?_ | refine n3_ fun b_ pre_ => ?_ | refine Nat1.mk fun q_ hq_ => ?_ | refine em_ fun x_ hx_ => ?_ | refine Elem1.mk fun e_ he_ => ?_); refine g0_ ?_))
    refine' loopI (α := Nat × Nat) (fun (j, b') => [(27, .int .i64 j), (6, .rsl b' 4 0 (rs.take j).flatten.length)]) [(25, _), (26, _)] (fun (j, b') => [⟨b', .row 4 ((rs.take j).flatten.map encCell) 0⟩]) (fun (j, b') => j ≤ rs.length) (fun (j, b') => rs.length - j) (0, b) ?_ ?_
    · exact Nat.zero_le _
    rintro ⟨j, b'⟩ hj
    dsimp only at hj ⊢
    have htj := take_flat_le rs j
    (refine g0_ ?_; repeat ((first | refine n1_ fun b_ => ?_ | refine n2_ fun b_ => ?_ | refine n3_ fun b_ pre_ => ?_ | refine Nat1.mk fun q_ hq_ => ?_ | refine em_ fun x_ hx_ => ?_ | refine Elem1.mk fun e_ he_ => ?_); refine g0_ ?_))
    refine brec ?_; intro c_ h2; (try rw [h2]); cases c_ <;> replace h2 := nm_ h2
    · obtain rfl : j = rs.length := by omega
      (refine g0_ ?_; repeat ((first | refine n1_ fun b_ => ?_ | refine n2_ fun b_ => ?_ | refine n3_ fun b_ pre_ => ?_ | refine Nat1.mk fun q_ hq_ => ?_ | refine em_ fun x_ hx_ => ?_ | refine Elem1.mk fun e_ he_ => ?_); refine g0_ ?_))
      rw [List.take_length]
      exact ⟨b', trivial, rfl, by (first | exact ⟨_, .refl _⟩ | exact wkMem.rfl' | exact ⟨_, .swap _ _ _⟩ | (repeat (first | exact wkMem.nil _ | exact wkMem.rfl' | exact wk_snoc _ _ _ | exact wk_fam (by assumption) _ _ _ | exact wk_famN (by assumption) _ _ _ | (apply wkMem.cons; (case' hl => (repeat (first | exact .here _ _ _ | apply Look.there)))) | apply wkMem.skip)))⟩
    · obtain ⟨r, hrj⟩ : ∃ r, rs[j]? = some r := ⟨rs[j]'(by omega), List.getElem?_eq_getElem _⟩
      have hx : (rs.map encRow)[j]? = some (encRow r) := by simp [hrj]
      have hs := take_flat_succ hrj
      have htj2 := take_flat_le rs (j + 1)
      rw [hs] at htj2
      have hrl2 : (r.map encCell).length = r.length := List.length_map ..
      rw [List.length_append] at htj2
      have hs2 : ((rs.take (j + 1)).flatten.length : Int) = (rs.take j).flatten.length + r.length := by rw [hs, List.length_append]; omega
      (refine g0_ ?_; repeat ((first | refine n1_ fun b_ => ?_ | refine n2_ fun b_ => ?_ | refine n3_ fun b_ pre_ => ?_ | refine Nat1.mk fun q_ hq_ => ?_ | refine em_ fun x_ hx_ => ?_ | refine Elem1.mk fun e_ he_ => ?_); refine g0_ ?_))
      refine need.mk (cells_all _) ?_
      (refine g0_ ?_; repeat ((first | refine n1_ fun b_ => ?_ | refine n2_ fun b_ => ?_ | refine n3_ fun b_ pre_ => ?_ | refine Nat1.mk fun q_ hq_ => ?_ | refine em_ fun x_ hx_ => ?_ | refine Elem1.mk fun e_ he_ => ?_); refine g0_ ?_))
      refine need.mk ⟨(List.length_map _).symm, by rw [hrl2]; show (_ + _) * 32 ≤ _; omega⟩ ?_
      (refine g0_ ?_; repeat ((first | refine n1_ fun b_ => ?_ | refine n2_ fun b_ => ?_ | refine n3_ fun b_ pre_ => ?_ | refine Nat1.mk fun q_ hq_ => ?_ | refine em_ fun x_ hx_ => ?_ | refine Elem1.mk fun e_ he_ => ?_); refine g0_ ?_))
      rw [hrl2, ← List.map_append, show (rs.take j).flatten.length + r.length = (rs.take (j + 1)).flatten.length by rw [hs, List.length_append], ← hs]
      refine nx_ (j + 1, b_) ?_ ?_
      · show j + 1 ≤ rs.length; omega
      · show rs.length - (j + 1) < rs.length - j; omega
  · obtain ⟨r, hri⟩ : ∃ r, rs[i]? = some r := ⟨rs[i]'(by omega), List.getElem?_eq_getElem _⟩
    have hx : (rs.map encRow)[i]? = some (encRow r) := by simp [hri]
    have hs := take_flat_succ hri
    have hti2 := take_flat_le rs (i + 1)
    rw [hs] at hti2
    have hrl2 : (r.map encCell).length = r.length := List.length_map ..
    rw [List.length_append] at hti2
    have hs2 : ((rs.take (i + 1)).flatten.length : Int) = (rs.take i).flatten.length + r.length := by rw [hs, List.length_append]; omega
    (refine g0_ ?_; repeat ((first | refine n1_ fun b_ => ?_ | refine n2_ fun b_ => ?_ | refine n3_ fun b_ pre_ => ?_ | refine Nat1.mk fun q_ hq_ => ?_ | refine em_ fun x_ hx_ => ?_ | refine Elem1.mk fun e_ he_ => ?_); refine g0_ ?_))
    rw [hrl2, ← hs2]
    refine nx_ (i + 1) ?_ ?_
    · show i + 1 ≤ rs.length; omega
    · show rs.length - (i + 1) < rs.length - i; omega
end Go.Eng.YtgpkedepboenpaaDoor
end

/- A desk's row where cells are put in or taken out. -/
section
namespace Go.Eng
open Go
variable {P : Program} {W : World}
/-- A call that reads what is owned as if nobody wrote it: what is to be shown of its argument at all. -/
theorem ACalls.borrowS {α : Type} {V : α → PV} {M : α → Mem} {R : α → Prop} {f : FuncId} {a a' : PV} {σ : Mem} {k : PV → Mem → Prop} (h : ACalls P W f [a'] [] (Gives V M R)) (hf : ∀ x, R x → Free (V x) ∧ FreeM (M x))
    (ha : ∀ (K : Kn) (w : World) (v : Value), SatM K σ w → VRel K w a v → VRel (allK K σ) w a' v) (hk : ∀ x, R x → k (V x) (M x ++ σ)) : ACalls P W f [a] σ k := by
  refine ⟨h.body, fun K w vs hlen hr hm hpre => ?_⟩
  have hrel : ∀ i, i < [a'].length → VRel (allK K σ) w ([a'].getD i .dead) (vs.getD i undef) := fun i hi => by
    obtain rfl : i = 0 := by simpa using hi
    exact ha K w _ hm (hr 0 (by simp))
  refine (h.run _ w vs hlen hrel (allK_sat hm) ⟨hpre.size, hpre.base, fun k hk => by cases hk⟩).mono ?_
  rintro e w' ⟨v, pv, σ', K', h2, ⟨x, hR, rfl, ρ, hρ⟩, h4, h5, h6⟩
  obtain ⟨f1, f2⟩ := hf x hR
  have h5' : SatM K' (M x) w' := (h5.perm hρ).drop (List.sublist_append_left _ _)
  have hnew : ∀ k ∈ M x, w.heap.size ≤ k.b := fun k hk => by
    rcases h6.own k (hρ.mem_iff.2 (List.mem_append_left _ hk)) with ⟨k0, h0, _⟩ | h0
    · cases h0
    · exact h0
  have hold : ∀ k ∈ σ, k.b < w.heap.size := fun k hk => (hm.blk k hk).lt
  let K2 : Kn := fun b o => K' b o ∧ ((∃ k ∈ σ, k.b = b) → K b o)
  have hK2 : ∀ b o, K b o → K2 b o ∧ w'.cell? ⟨b, o, none⟩ = w.cell? ⟨b, o, none⟩ := fun b o hb => ⟨⟨(h6.kn b o (.inl hb)).1, fun _ => hb⟩, (h6.kn b o (.inl hb)).2⟩
  refine ⟨v, V x, M x ++ σ, K2, h2, hk x hR, f1.rel h4, ⟨fun b o hb => h5.kin b o hb.1, ?_, fun k hk => ?_⟩, ?_⟩
  · rw [List.map_append, List.nodup_append]
    refine ⟨h5'.nodup, hm.nodup, fun a ha b hb e => ?_⟩
    obtain ⟨k1, g1, rfl⟩ := List.mem_map.1 ha
    obtain ⟨k2, g2, rfl⟩ := List.mem_map.1 hb
    have := hnew k1 g1
    have := hold k2 g2
    omega
  · rcases List.mem_append.1 hk with hk | hk
    · obtain ⟨sz, es, fz, hc, hes⟩ := f2 k hk
      obtain ⟨b, c⟩ := k
      obtain rfl : c = .row sz es fz := hc
      obtain ⟨g1, g2, g3, cs, ty, g4, g5, g6⟩ : RowOk K' w' b sz es fz := h5'.blk _ hk
      show RowOk K2 w' b sz es fz
      refine ⟨g1, fun o ho => g2 o ho.1, g3, cs, ty, g4, g5, fun i j hi hj => ?_⟩
      have hmem : es.getD i .dead ∈ es := by simp [List.getD_eq_getElem?_getD, hi]
      have hlen := g3 _ hmem
      refine Free.rel ((hes _ hmem).flat _ ?_) (g6 i j hi hj)
      generalize (es.getD i .dead).flat = l at hlen
      subst hlen
      simp [List.getD_eq_getElem?_getD, hj]
    · exact (hm.blk k hk).move (h6.keep k.b (hold k hk) (fun k0 h0 => by cases h0)) (fun o ho => ho.2 ⟨k, hk, rfl⟩) hK2 h6.shape
  · refine ⟨h6.os, h6.tape, h6.output, h6.size, h6.shape, fun b hb _ => h6.keep b hb (fun k0 h0 => by cases h0), hK2, fun k hk => ?_, fun b o hb => ?_⟩
    · rcases List.mem_append.1 hk with hk | hk
      · exact .inr (hnew k hk)
      · exact .inl ⟨k, hk, rfl⟩
    · rcases h6.fresh b o hb.1 with h | ⟨k0, h0, _⟩ | h
      · rcases h with h | ⟨sz, es, fz, h, _⟩
        · exact .inl h
        · exact .inr (.inl ⟨_, h, rfl⟩)
      · cases h0
      · exact .inr (.inr h)
/-- A slice of what is owned. -/
theorem sl_sem {σ : Mem} {sz : Nat} {es es' : List PV} (hl : es.length = es'.length) (h0 : es ≠ []) (hz : ∀ e ∈ es', e.flat.length = sz) (hF : ∀ i j, i < es.length → j < sz → Frz σ ((es.getD i .dead).flat.getD j .dead) ((es'.getD i .dead).flat.getD j .dead)) (K : Kn) (w : World) (v : Value) (hm : SatM K σ w) (hv : VRel K w (.sl sz es) v) : VRel (allK K σ) w (.sl sz es') v := by
  cases hv with
  | sl0 => exact absurd rfl h0
  | sl _ _ b o cap hcap vs hz1 hk hv =>
    rw [hl]
    exact .sl sz es' b o cap (hl ▸ hcap) vs hz (fun i j hi hj => ⟨.inl (hk i j (hl ▸ hi) hj).1, (hk i j (hl ▸ hi) hj).2⟩) fun i j hi hj => frz_sound hm (hF i j (hl ▸ hi) hj) _ (hv i j (hl ▸ hi) hj)
end Go.Eng
namespace Go.Eng.YtgpkedepboenpaaDoor
open Go Go.Eng Go.Proofs
variable (W : World)
set_option linter.unusedSimpArgs false
set_option maxRecDepth 100000
set_option linter.unusedVariables false
set_option maxHeartbeats 8000000
theorem frz_seg {σ r : Mem} {b : Nat} {l : List Cell} (h : Look σ b (.row 4 (l.map encCell) 0) r) (i n : Nat) (hi : i + n ≤ l.length) : Frz σ (.rsl b 4 i n) (encRow ((l.drop i).take n)) := by
  refine Frz.rsl b 4 i n (l.map encCell) (((l.drop i).take n).map encCell) 0 r h (by rw [List.length_map]; exact hi) (by simp; omega) fun j hj => ?_
  rw [show ((l.map encCell).getD (i + j) .dead) = ((((l.drop i).take n).map encCell).getD j .dead) by
    rw [List.getD_eq_getElem?_getD, List.getD_eq_getElem?_getD, List.getElem?_map, List.getElem?_map, List.getElem?_take, if_pos hj, List.getElem?_drop]]
  exact .refl _
theorem sem_three {σ : Mem} {v1 v2 v3 : PV} {r1 r2 r3 : List Cell} (f1 : v1.flat = [v1]) (f2 : v2.flat = [v2]) (f3 : v3.flat = [v3]) (h1 : Frz σ v1 (encRow r1)) (h2 : Frz σ v2 (encRow r2)) (h3 : Frz σ v3 (encRow r3)) (K : Kn) (w : World) (v : Value) : SatM K σ w → VRel K w (.sl 1 [v1, v2, v3]) v → VRel (allK K σ) w (.sl 1 ([r1, r2, r3].map encRow)) v := by
  refine sl_sem (es := [v1, v2, v3]) (es' := [r1, r2, r3].map encRow) rfl (fun h => by cases h) (fun e he => ?_) (fun i j hi hj => ?_) K w v
  · obtain ⟨r, _, rfl⟩ := List.mem_map.1 he
    rfl
  · obtain rfl : j = 0 := by omega
    match i, hi with
    | 0, _ => show Frz σ (v1.flat.getD 0 .dead) _; rw [f1]; exact h1
    | 1, _ => show Frz σ (v2.flat.getD 0 .dead) _; rw [f2]; exact h2
    | 2, _ => show Frz σ (v3.flat.getD 0 .dead) _; rw [f3]; exact h3
theorem wk_mid {a b' c e d : Blk} {F G : Mem} (h : wkMem (b' :: F) G) : wkMem (a :: b' :: c :: e :: d :: F) ([d] ++ (a :: G)) := by
  obtain ⟨q, hq⟩ := h
  refine ⟨q ++ [c, e], ?_⟩
  have h5 : [a, b', c, e, d].Perm [d, a, c, e, b'] := (List.perm_append_comm (l₁ := [a, b', c, e]) (l₂ := [d])).trans (List.Perm.cons _ (List.Perm.cons _ (List.perm_append_comm (l₁ := [b']) (l₂ := [c, e]))))
  refine (List.Perm.append_right F h5).trans ?_
  refine List.Perm.cons _ (List.Perm.cons _ ?_)
  refine (List.Perm.append_left [c, e] hq).trans ?_
  show ([c, e] ++ (G ++ q)).Perm (G ++ (q ++ [c, e]))
  rw [← List.append_assoc G]
  exact List.perm_append_comm
def shiftK (s : Scr) (n : Int) : Nat := (min (timesL n) (s.g.w - s.x)).toNat
def insRow (B : Cell) (x k : Nat) (row : List Cell) : List Cell := (row.take x ++ List.replicate k B ++ row.drop x).take row.length
def delRow (B : Cell) (x k : Nat) (row : List Cell) : List Cell := row.take x ++ row.drop (x + k) ++ List.replicate k B
theorem actInsert_ok (s : Scr) (n m : Int) {w h : Nat} (hr : s.right w h) {row : List Cell} (hrow : s.g.rows[s.y.toNat]? = some row) (d : Nat) (cv tv gv : PV) (bo : Nat) (l : Fam) (hl : l.map Prod.snd = s.g.rows) :
    ACalls Tryd.prog W 75 (actArgs [105, 110, 115, 101, 114, 116] n m d) (dM d cv tv gv bo l s) (Gives (fun _ : Fam => .tup []) (fun l' => dM d cv tv gv bo l' { s with late := false }) (fun l' => l'.map Prod.snd = s.g.rows.set s.y.toNat (mendL (insRow (blankB s.look.back) s.x.toNat (shiftK s n) row)))) := by
  have f := rowsOk_of hr
  have hw2 := hr.fit.w2
  have hw1 := hr.fit.w1
  have hh2 := hr.fit.h2
  have hx := hr.x
  have hy := hr.y
  have hgw := hr.fit.ew
  obtain ⟨x, hx'⟩ := Int.eq_ofNat_of_zero_le hx.1
  obtain ⟨y, hy'⟩ := Int.eq_ofNat_of_zero_le hy.1
  have htl : 1 ≤ timesL n ∧ timesL n ≤ 9999 := by unfold timesL; omega
  obtain ⟨k, hk⟩ : ∃ k : Nat, (k : Int) = min (timesL n) (w - x) := ⟨(min (timesL n) (w - x)).toNat, by omega⟩
  have hck : shiftK s n = k := by rw [shiftK, hgw, hx']; omega
  have hyN : s.y.toNat = y := by omega
  have hxN : s.x.toNat = x := by omega
  rw [hck, hyN, hxN]
  rw [hyN] at hrow
  obtain ⟨p, hp, rfl⟩ : ∃ p, l[y]? = some p ∧ p.2 = row := by
    rw [← hl, List.getElem?_map] at hrow
    obtain ⟨p, hp, rfl⟩ := Option.map_eq_some_iff.1 hrow
    exact ⟨p, hp, rfl⟩
  have hll : l.length = h := by have := congrArg List.length hl; rwa [List.length_map, f.len] at this
  have hpl : p.2.length = w := f.row _ (List.mem_of_getElem? hrow)
  have hp0 : l[0 + y]? = some p := by rwa [Nat.zero_add]
  have hof := often_ok W n
  have hyl := lt_of_at hp
  have hbk := dblank_ok W d cv tv gv (.rsl bo 1 0 l.length) { s with late := false }
  have hbl := dblank_q W d cv tv gv (.rsl bo 1 0 l.length) { s with late := false }
  obtain ⟨B, hB⟩ : ∃ B, B = blankB s.look.back := ⟨_, rfl⟩
  rw [show blankB ({ s with late := false } : Scr).look.back = B from hB.symm] at hbl hbk
  rw [← hB]
  have hre := repeatC_ok W B k (by omega) (by omega)
  clear f hr
  refine acalls_of_vc (DL_ok (by decide)) Tryd.func75 rfl (by decide) (by decide) rfl ?_
  (refine g0_ ?_; repeat ((first | refine n1_ fun b_ => ?_ | refine n2_ fun b_ => ?_ | refine n3_ fun b_ pre_ => ?_ | refine Nat1.mk fun q_ hq_ => ?_ | refine em_ fun x_ hx_ => ?_ | refine Elem1.mk fun e_ he_ => ?_); refine g0_ ?_))
  refine headL_ (head_ ?_); (refine g0_ ?_; repeat ((first | refine n1_ fun b_ => ?_ | refine n2_ fun b_ => ?_ | refine n3_ fun b_ pre_ => ?_ | refine Nat1.mk fun q_ hq_ => ?_ | refine em_ fun x_ hx_ => ?_ | refine Elem1.mk fun e_ he_ => ?_); refine g0_ ?_))
  refine ⟨_, (hof).quiet, ?_⟩; (refine g0_ ?_; repeat ((first | refine n1_ fun b_ => ?_ | refine n2_ fun b_ => ?_ | refine n3_ fun b_ pre_ => ?_ | refine Nat1.mk fun q_ hq_ => ?_ | refine em_ fun x_ hx_ => ?_ | refine Elem1.mk fun e_ he_ => ?_); refine g0_ ?_))
  (refine g0_ ?_; repeat ((first | refine n1_ fun b_ => ?_ | refine n2_ fun b_ => ?_ | refine n3_ fun b_ pre_ => ?_ | refine Nat1.mk fun q_ hq_ => ?_ | refine em_ fun x_ hx_ => ?_ | refine Elem1.mk fun e_ he_ => ?_); refine g0_ ?_))
  simp only [ifmin]
  rw [show min (timesL n) (s.g.w - s.x) = (k : Int) by rw [hgw, hx']; exact hk.symm]
  refine headL_ (head_ ?_); (refine g0_ ?_; repeat ((first | refine n1_ fun b_ => ?_ | refine n2_ fun b_ => ?_ | refine n3_ fun b_ pre_ => ?_ | refine Nat1.mk fun q_ hq_ => ?_ | refine em_ fun x_ hx_ => ?_ | refine Elem1.mk fun e_ he_ => ?_); refine g0_ ?_))
  (refine g0_ ?_; repeat ((first | refine n1_ fun b_ => ?_ | refine n2_ fun b_ => ?_ | refine n3_ fun b_ pre_ => ?_ | refine Nat1.mk fun q_ hq_ => ?_ | refine em_ fun x_ hx_ => ?_ | refine Elem1.mk fun e_ he_ => ?_); refine g0_ ?_))
  obtain rfl : y = q_ := by omega
  obtain rfl : p = x_ := Option.some.inj (hp0.symm.trans hx_)
  clear hx_ hq_
  refine Draws10.chain ⟨39, [.new, .new, .new, .new, .new, .new, .new, .new, .new, .new, .new, .new, .new, .new, .new, .new, .new, .new, .new, .new, .turn, .new, .new, .new, .new, .new, .new, .new, .skip, .skip, .new, .new, .new, .new, .new, .new, .skip, .skip, .skip], [(20, [.again, .again, .again, .again, .again, .again, .again, .again, .again, .again, .again, .again, .again, .again, .again, .again, .keep, .keep, .keep, .keep, .keep, .again, .again, .again, .again, .again, .again, .again, .new, .turn, .again, .again, .again, .again, .again, .again, .skip, .skip, .skip]), (29, [.again, .again, .again, .again, .again, .again, .again, .again, .again, .keep, .keep, .keep, .keep, .keep, .keep, .keep, .keep, .keep, .keep, .keep, .keep, .keep, .keep, .keep, .keep, .keep, .keep, .keep, .keep, .keep, .again, .again, .again, .again, .again, .again, .new, .new, .turn]), (38, [.keep, .keep, .keep, .keep, .keep, .keep, .keep, .keep, .keep, .keep, .keep, .keep, .keep, .keep, .keep, .keep, .keep, .keep, .keep, .keep, .keep, .keep, .keep, .keep, .keep, .keep, .keep, .keep, .keep, .keep, .keep, .keep, .keep, .keep, .keep, .keep, .keep, .keep, .keep])], by decide +kernel, ?_⟩; (refine g0_ ?_; repeat ((first | refine n1_ fun b_ => ?_ | refine n2_ fun b_ => ?_ | refine n3_ fun b_ pre_ => ?_ | refine Nat1.mk fun q_ hq_ => ?_ | refine em_ fun x_ hx_ => ?_ | refine Elem1.mk fun e_ he_ => ?_); refine g0_ ?_))
  refine ⟨_, hbl _, ?_⟩
  (refine g0_ ?_; repeat ((first | refine n1_ fun b_ => ?_ | refine n2_ fun b_ => ?_ | refine n3_ fun b_ pre_ => ?_ | refine Nat1.mk fun q_ hq_ => ?_ | refine em_ fun x_ hx_ => ?_ | refine Elem1.mk fun e_ he_ => ?_); refine g0_ ?_))
  refine ACalls.give hre ?_
  rintro br -
  (refine g0_ ?_; repeat ((first | refine n1_ fun b_ => ?_ | refine n2_ fun b_ => ?_ | refine n3_ fun b_ pre_ => ?_ | refine Nat1.mk fun q_ hq_ => ?_ | refine em_ fun x_ hx_ => ?_ | refine Elem1.mk fun e_ he_ => ?_); refine g0_ ?_))
  rename_i q1 hq1 q2 hq2 q3 hq3
  obtain rfl : x = q1 := by omega
  obtain rfl : x = q2 := by omega
  obtain rfl : x = q3 := by omega
  obtain rfl : x = q_ := by omega
  have hkl : ((List.replicate k B).map encCell).length = k := by simp
  have hfl : [p.2.take x, List.replicate k B, p.2.drop x].flatten = p.2.take x ++ List.replicate k B ++ p.2.drop x := by simp
  have hfn : [p.2.take x, List.replicate k B, p.2.drop x].flatten.length = w + k := by rw [hfl]; simp; omega
  refine ACalls.borrowS (concat_ok W [p.2.take x, List.replicate k B, p.2.drop x] (by simp) (by omega) (by omega)) (fun b _ => ⟨.rsl _ _ _ _, freeM1 _ _⟩) (sem_three rfl rfl rfl (r1 := p.2.take x) (r2 := List.replicate k B) (r3 := p.2.drop x) ?_ ?_ ?_) ?_
  · have := frz_seg (Look.app (Look.fam (sz := 4) (f := encCell) hp []) ([⟨br, .row 4 ((List.replicate k B).map encCell) 0⟩, dskB d cv tv gv (.rsl bo 1 0 l.length) { s with late := false }, ⟨bo, .row 1 (l.map (rowP 4)) 0⟩])) 0 x (by omega)
    exact this
  · exact frz_row (l := (List.replicate k B).map encCell) (.here _ _ _) _ (by simp)
  · have := frz_seg (Look.app (Look.fam (sz := 4) (f := encCell) hp []) ([⟨br, .row 4 ((List.replicate k B).map encCell) 0⟩, dskB d cv tv gv (.rsl bo 1 0 l.length) { s with late := false }, ⟨bo, .row 1 (l.map (rowP 4)) 0⟩])) x (p.2.length - x) (by omega)
    rw [List.take_of_length_le (by simp)] at this
    rw [Nat.zero_add]
    exact this
  rintro bC -
  (refine g0_ ?_; repeat ((first | refine n1_ fun b_ => ?_ | refine n2_ fun b_ => ?_ | refine n3_ fun b_ pre_ => ?_ | refine Nat1.mk fun q_ hq_ => ?_ | refine em_ fun x_ hx_ => ?_ | refine Elem1.mk fun e_ he_ => ?_); refine g0_ ?_))
  refine Draws10.chain ⟨21, [.new, .new, .new, .new, .new, .new, .new, .new, .new, .new, .new, .new, .new, .new, .new, .new, .new, .new, .new, .new, .turn], [(20, [.again, .again, .again, .again, .again, .again, .again, .again, .again, .keep, .keep, .keep, .keep, .keep, .keep, .keep, .keep, .keep, .keep, .keep, .keep])], by decide +kernel, ?_⟩; (refine g0_ ?_; repeat ((first | refine n1_ fun b_ => ?_ | refine n2_ fun b_ => ?_ | refine n3_ fun b_ pre_ => ?_ | refine Nat1.mk fun q_ hq_ => ?_ | refine em_ fun x_ hx_ => ?_ | refine Elem1.mk fun e_ he_ => ?_); refine g0_ ?_))
  rename_i qw hqw qy hqy
  obtain rfl : w = qw := by omega
  obtain rfl : y = qy := by omega
  obtain rfl : y = q_ := by omega
  have he2 := he_
  rw [List.getElem?_set_self (by rw [List.length_map]; omega)] at he2
  obtain rfl := Option.some.inj he2
  clear he2 he_
  (refine g0_ ?_; repeat ((first | refine n1_ fun b_ => ?_ | refine n2_ fun b_ => ?_ | refine n3_ fun b_ pre_ => ?_ | refine Nat1.mk fun q_ hq_ => ?_ | refine em_ fun x_ hx_ => ?_ | refine Elem1.mk fun e_ he_ => ?_); refine g0_ ?_))
  have hin : insRow B x k p.2 = (([p.2.take x, List.replicate k B, p.2.drop x].flatten).drop 0).take w := by rw [hfl, insRow, hpl]; rfl
  have hil : (insRow B x k p.2).length = w := by rw [hin, List.drop_zero, List.length_take, hfn]; omega
  refine ACalls.borrow1 (mendR_ok W (insRow B x k p.2) (by intro h0; rw [h0] at hil; simp at hil; omega) (by omega)) (fun b _ => ⟨.rsl _ _ _ _, freeM1 _ _⟩) ?_ ?_
  · rw [hin]
    exact frz_seg (.there _ _ _ _ _ (.here _ _ _)) 0 w (by omega)
  rintro b' -
  rw [List.length_map, mendL_len, hil]
  (refine g0_ ?_; repeat ((first | refine n1_ fun b_ => ?_ | refine n2_ fun b_ => ?_ | refine n3_ fun b_ pre_ => ?_ | refine Nat1.mk fun q_ hq_ => ?_ | refine em_ fun x_ hx_ => ?_ | refine Elem1.mk fun e_ he_ => ?_); refine g0_ ?_))
  obtain rfl : y = q_ := by omega
  have he2 := he_
  rw [List.getElem?_set_self (by rw [List.length_map]; omega)] at he2
  obtain rfl := Option.some.inj he2
  clear he2 he_
  (refine g0_ ?_; repeat ((first | refine n1_ fun b_ => ?_ | refine n2_ fun b_ => ?_ | refine n3_ fun b_ pre_ => ?_ | refine Nat1.mk fun q_ hq_ => ?_ | refine em_ fun x_ hx_ => ?_ | refine Elem1.mk fun e_ he_ => ?_); refine g0_ ?_))
  rw [List.set_set, show (l.map (rowP 4)).set (0 + y) (.rsl b' 4 0 w) = (l.set y (b', mendL (insRow B x k p.2))).map (rowP 4) by rw [Nat.zero_add, List.map_set, rowP, mendL_len, hil]]
  refine ⟨l.set y (b', mendL (insRow B x k p.2)), by show List.map Prod.snd (l.set y (b', mendL (insRow B x k p.2))) = _; rw [fam_set, hl], rfl, ?_⟩
  show wkMem _ ([dskB d cv tv gv (.rsl bo 1 0 (l.set y (b', mendL (insRow B x k p.2))).length) { s with late := false }] ++ (⟨bo, .row 1 ((l.set y (b', mendL (insRow B x k p.2))).map (rowP 4)) 0⟩ :: (famM 4 encCell (l.set y (b', mendL (insRow B x k p.2))) ++ [])))
  rw [List.length_set]
  exact wk_mid (wk_famN hp b' (mendL (insRow B x k p.2)) [])
theorem actDelete_ok (s : Scr) (n m : Int) {w h : Nat} (hr : s.right w h) {row : List Cell} (hrow : s.g.rows[s.y.toNat]? = some row) (d : Nat) (cv tv gv : PV) (bo : Nat) (l : Fam) (hl : l.map Prod.snd = s.g.rows) :
    ACalls Tryd.prog W 75 (actArgs [100, 101, 108, 101, 116, 101] n m d) (dM d cv tv gv bo l s) (Gives (fun _ : Fam => .tup []) (fun l' => dM d cv tv gv bo l' { s with late := false }) (fun l' => l'.map Prod.snd = s.g.rows.set s.y.toNat (mendL (delRow (blankB s.look.back) s.x.toNat (shiftK s n) row)))) := by
  have f := rowsOk_of hr
  have hw2 := hr.fit.w2
  have hw1 := hr.fit.w1
  have hh2 := hr.fit.h2
  have hx := hr.x
  have hy := hr.y
  have hgw := hr.fit.ew
  obtain ⟨x, hx'⟩ := Int.eq_ofNat_of_zero_le hx.1
  obtain ⟨y, hy'⟩ := Int.eq_ofNat_of_zero_le hy.1
  have htl : 1 ≤ timesL n ∧ timesL n ≤ 9999 := by unfold timesL; omega
  obtain ⟨k, hk⟩ : ∃ k : Nat, (k : Int) = min (timesL n) (w - x) := ⟨(min (timesL n) (w - x)).toNat, by omega⟩
  have hck : shiftK s n = k := by rw [shiftK, hgw, hx']; omega
  have hyN : s.y.toNat = y := by omega
  have hxN : s.x.toNat = x := by omega
  rw [hck, hyN, hxN]
  rw [hyN] at hrow
  obtain ⟨p, hp, rfl⟩ : ∃ p, l[y]? = some p ∧ p.2 = row := by
    rw [← hl, List.getElem?_map] at hrow
    obtain ⟨p, hp, rfl⟩ := Option.map_eq_some_iff.1 hrow
    exact ⟨p, hp, rfl⟩
  have hll : l.length = h := by have := congrArg List.length hl; rwa [List.length_map, f.len] at this
  have hpl : p.2.length = w := f.row _ (List.mem_of_getElem? hrow)
  have hp0 : l[0 + y]? = some p := by rwa [Nat.zero_add]
  have hof := often_ok W n
  have hyl := lt_of_at hp
  have hbk := dblank_ok W d cv tv gv (.rsl bo 1 0 l.length) { s with late := false }
  have hbl := dblank_q W d cv tv gv (.rsl bo 1 0 l.length) { s with late := false }
  obtain ⟨B, hB⟩ : ∃ B, B = blankB s.look.back := ⟨_, rfl⟩
  rw [show blankB ({ s with late := false } : Scr).look.back = B from hB.symm] at hbl hbk
  rw [← hB]
  have hre := repeatC_ok W B k (by omega) (by omega)
  clear f hr
  refine acalls_of_vc (DL_ok (by decide)) Tryd.func75 rfl (by decide) (by decide) rfl ?_
  (refine g0_ ?_; repeat ((first | refine n1_ fun b_ => ?_ | refine n2_ fun b_ => ?_ | refine n3_ fun b_ pre_ => ?_ | refine Nat1.mk fun q_ hq_ => ?_ | refine em_ fun x_ hx_ => ?_ | refine Elem1.mk fun e_ he_ => ?_); refine g0_ ?_))
  refine headL_ (head_ ?_); (refine g0_ ?_; repeat ((first | refine n1_ fun b_ => ?_ | refine n2_ fun b_ => ?_ | refine n3_ fun b_ pre_ => ?_ | refine Nat1.mk fun q_ hq_ => ?_ | refine em_ fun x_ hx_ => ?_ | refine Elem1.mk fun e_ he_ => ?_); refine g0_ ?_))
  refine ⟨_, (hof).quiet, ?_⟩; (refine g0_ ?_; repeat ((first | refine n1_ fun b_ => ?_ | refine n2_ fun b_ => ?_ | refine n3_ fun b_ pre_ => ?_ | refine Nat1.mk fun q_ hq_ => ?_ | refine em_ fun x_ hx_ => ?_ | refine Elem1.mk fun e_ he_ => ?_); refine g0_ ?_))
  (refine g0_ ?_; repeat ((first | refine n1_ fun b_ => ?_ | refine n2_ fun b_ => ?_ | refine n3_ fun b_ pre_ => ?_ | refine Nat1.mk fun q_ hq_ => ?_ | refine em_ fun x_ hx_ => ?_ | refine Elem1.mk fun e_ he_ => ?_); refine g0_ ?_))
  simp only [ifmin]
  rw [show min (timesL n) (s.g.w - s.x) = (k : Int) by rw [hgw, hx']; exact hk.symm]
  refine headL_ (head_ ?_); (refine g0_ ?_; repeat ((first | refine n1_ fun b_ => ?_ | refine n2_ fun b_ => ?_ | refine n3_ fun b_ pre_ => ?_ | refine Nat1.mk fun q_ hq_ => ?_ | refine em_ fun x_ hx_ => ?_ | refine Elem1.mk fun e_ he_ => ?_); refine g0_ ?_))
  (refine g0_ ?_; repeat ((first | refine n1_ fun b_ => ?_ | refine n2_ fun b_ => ?_ | refine n3_ fun b_ pre_ => ?_ | refine Nat1.mk fun q_ hq_ => ?_ | refine em_ fun x_ hx_ => ?_ | refine Elem1.mk fun e_ he_ => ?_); refine g0_ ?_))
  obtain rfl : y = q_ := by omega
  obtain rfl : p = x_ := Option.some.inj (hp0.symm.trans hx_)
  clear hx_ hq_
  refine Draws10.chain ⟨35, [.new, .new, .new, .new, .new, .new, .new, .new, .new, .new, .new, .new, .new, .new, .new, .new, .new, .new, .new, .new, .new, .new, .new, .new, .new, .new, .new, .new, .new, .turn, .skip, .skip, .skip, .skip, .skip], [(29, [.again, .again, .again, .again, .again, .again, .again, .again, .again, .again, .again, .again, .again, .again, .again, .again, .again, .again, .again, .again, .again, .again, .again, .again, .again, .keep, .keep, .keep, .keep, .keep, .new, .turn, .skip, .skip, .skip]), (31, [.again, .again, .again, .again, .again, .again, .again, .again, .again, .keep, .keep, .keep, .keep, .keep, .keep, .keep, .keep, .keep, .keep, .keep, .keep, .keep, .keep, .keep, .keep, .keep, .keep, .keep, .keep, .keep, .keep, .keep, .turn, .skip, .skip]), (32, [.again, .again, .again, .again, .again, .again, .again, .again, .again, .keep, .keep, .keep, .keep, .keep, .keep, .keep, .keep, .keep, .keep, .keep, .keep, .keep, .keep, .keep, .keep, .keep, .keep, .keep, .keep, .keep, .keep, .keep, .keep, .new, .turn]), (34, [.keep, .keep, .keep, .keep, .keep, .keep, .keep, .keep, .keep, .keep, .keep, .keep, .keep, .keep, .keep, .keep, .keep, .keep, .keep, .keep, .keep, .keep, .keep, .keep, .keep, .keep, .keep, .keep, .keep, .keep, .keep, .keep, .keep, .keep, .keep])], by decide +kernel, ?_⟩; (refine g0_ ?_; repeat ((first | refine n1_ fun b_ => ?_ | refine n2_ fun b_ => ?_ | refine n3_ fun b_ pre_ => ?_ | refine Nat1.mk fun q_ hq_ => ?_ | refine em_ fun x_ hx_ => ?_ | refine Elem1.mk fun e_ he_ => ?_); refine g0_ ?_))
  refine ⟨_, hbl _, ?_⟩
  (refine g0_ ?_; repeat ((first | refine n1_ fun b_ => ?_ | refine n2_ fun b_ => ?_ | refine n3_ fun b_ pre_ => ?_ | refine Nat1.mk fun q_ hq_ => ?_ | refine em_ fun x_ hx_ => ?_ | refine Elem1.mk fun e_ he_ => ?_); refine g0_ ?_))
  refine ACalls.give hre ?_
  rintro br -
  (refine g0_ ?_; repeat ((first | refine n1_ fun b_ => ?_ | refine n2_ fun b_ => ?_ | refine n3_ fun b_ pre_ => ?_ | refine Nat1.mk fun q_ hq_ => ?_ | refine em_ fun x_ hx_ => ?_ | refine Elem1.mk fun e_ he_ => ?_); refine g0_ ?_))
  rename_i q1 hq1 q2 hq2 q3 hq3
  obtain rfl : x = q1 := by omega
  obtain rfl : x + k = q2 := by omega
  obtain rfl : x = q3 := by omega
  obtain rfl : x + k = q_ := by omega
  have hkl : ((List.replicate k B).map encCell).length = k := by simp
  have hfl : [p.2.take x, p.2.drop (x + k), List.replicate k B].flatten = delRow B x k p.2 := by simp [delRow]
  have hfn : (delRow B x k p.2).length = w := by rw [delRow]; simp; omega
  have hcc := concat_ok W [p.2.take x, p.2.drop (x + k), List.replicate k B] (by simp) (by rw [hfl]; omega) (by rw [hfl]; omega)
  rw [hfl, hfn] at hcc
  refine ACalls.borrowS hcc (fun b _ => ⟨.rsl _ _ _ _, freeM1 _ _⟩) (sem_three rfl rfl rfl (r1 := p.2.take x) (r2 := p.2.drop (x + k)) (r3 := List.replicate k B) ?_ ?_ ?_) ?_
  · have := frz_seg (Look.app (Look.fam (sz := 4) (f := encCell) hp []) ([⟨br, .row 4 ((List.replicate k B).map encCell) 0⟩, dskB d cv tv gv (.rsl bo 1 0 l.length) { s with late := false }, ⟨bo, .row 1 (l.map (rowP 4)) 0⟩])) 0 x (by omega)
    exact this
  · have := frz_seg (Look.app (Look.fam (sz := 4) (f := encCell) hp []) ([⟨br, .row 4 ((List.replicate k B).map encCell) 0⟩, dskB d cv tv gv (.rsl bo 1 0 l.length) { s with late := false }, ⟨bo, .row 1 (l.map (rowP 4)) 0⟩])) (x + k) (p.2.length - (x + k)) (by omega)
    rw [List.take_of_length_le (by simp)] at this
    rw [Nat.zero_add]
    exact this
  · exact frz_row (l := (List.replicate k B).map encCell) (.here _ _ _) _ (by simp)
  rintro bC -
  (refine g0_ ?_; repeat ((first | refine n1_ fun b_ => ?_ | refine n2_ fun b_ => ?_ | refine n3_ fun b_ pre_ => ?_ | refine Nat1.mk fun q_ hq_ => ?_ | refine em_ fun x_ hx_ => ?_ | refine Elem1.mk fun e_ he_ => ?_); refine g0_ ?_))
  refine ACalls.borrow1 (mendR_ok W (delRow B x k p.2) (by intro h0; rw [h0] at hfn; simp at hfn; omega) (by omega)) (fun b _ => ⟨.rsl _ _ _ _, freeM1 _ _⟩) ?_ ?_
  · exact frz_row (l := (delRow B x k p.2).map encCell) (.here _ _ _) _ (by simp [hfn])
  rintro b' -
  rw [List.length_map, mendL_len, hfn]
  (refine g0_ ?_; repeat ((first | refine n1_ fun b_ => ?_ | refine n2_ fun b_ => ?_ | refine n3_ fun b_ pre_ => ?_ | refine Nat1.mk fun q_ hq_ => ?_ | refine em_ fun x_ hx_ => ?_ | refine Elem1.mk fun e_ he_ => ?_); refine g0_ ?_))
  obtain rfl : y = q_ := by omega
  rw [show (l.map (rowP 4)).set (0 + y) (.rsl b' 4 0 w) = (l.set y (b', mendL (delRow B x k p.2))).map (rowP 4) by rw [Nat.zero_add, List.map_set, rowP, mendL_len, hfn]]
  refine ⟨l.set y (b', mendL (delRow B x k p.2)), by show List.map Prod.snd (l.set y (b', mendL (delRow B x k p.2))) = _; rw [fam_set, hl], rfl, ?_⟩
  show wkMem _ ([dskB d cv tv gv (.rsl bo 1 0 (l.set y (b', mendL (delRow B x k p.2))).length) { s with late := false }] ++ (⟨bo, .row 1 ((l.set y (b', mendL (delRow B x k p.2))).map (rowP 4)) 0⟩ :: (famM 4 encCell (l.set y (b', mendL (delRow B x k p.2))) ++ [])))
  rw [List.length_set]
  exact wk_mid (wk_famN hp b' (mendL (delRow B x k p.2)) [])
end Go.Eng.YtgpkedepboenpaaDoor
end
