/- Texts put together: Grow, Concat, ConS. -/
import Derived.Shelf.Spec.SlicesGrow
import Derived.Test.YtphoefglfbifdaaDoorMW11
/- slices.Grow of the nil slice, at cells. -/
section
namespace Go.Eng.YtphoefglfbifdaaDoor
open Go Go.Eng Go.Proofs
variable (W : World)
set_option linter.unusedSimpArgs false
set_option maxRecDepth 100000
set_option linter.unusedVariables false
def growRen : Go.Shelf.Ren := ⟨fun n => match n with | 4 => 72 | n => n, fun n => match n with | 0 => 0 | 3 => 3 | 4 => 4 | 9 => 9 | 20 => 20 | 22 => 22 | 25 => 56 | n => n, fun n => n⟩
theorem growLays : Go.Proofs.Lays8.n4 Tryd.prog growRen := {
  mixed := by kernel_rfl
  f4 := ⟨Tryd.f72.name, by kernel_rfl, Tryd.func72.trans (congrArg some (by kernel_rfl))⟩
  t0 := Tryd.underlying0
  a0 := Tryd.isAgg0
  z0 := Tryd.sizeOf0
  v0 := Tryd.zeroValue0
  t3 := Tryd.underlying3
  a3 := Tryd.isAgg3
  z3 := Tryd.sizeOf3
  v3 := Tryd.zeroValue3
  t4 := Tryd.underlying4
  a4 := Tryd.isAgg4
  z4 := Tryd.sizeOf4
  v4 := Tryd.zeroValue4
  t9 := Tryd.underlying9
  a9 := Tryd.isAgg9
  z9 := Tryd.sizeOf9
  v9 := Tryd.zeroValue9
  t20 := Tryd.underlying20
  a20 := Tryd.isAgg20
  z20 := Tryd.sizeOf20
  v20 := Tryd.zeroValue20
  t22 := Tryd.underlying22
  a22 := Tryd.isAgg22
  z22 := Tryd.sizeOf22
  v22 := Tryd.zeroValue22 }
theorem grow_ok (n : Nat) (hn : 0 < n) (hb : n * 32 ≤ 140737488355328) :
    ACalls Tryd.prog W 72 [.nils, .int .i64 n] [] (Gives (fun b : Nat => .rsl b 4 0 0) (fun b => [⟨b, .row 4 [] 0⟩]) (fun _ => True)) := by
  refine ⟨⟨_, Tryd.func72, by kernel_rfl, by kernel_rfl⟩, fun K w vs hl hr hm hp => ?_⟩
  obtain ⟨v0, v1, rfl⟩ : ∃ v0 v1, vs = [v0, v1] := by
    match vs, hl with
    | [a, b], _ => exact ⟨a, b, rfl⟩
  have h0 : VRel K w .nils v0 := hr 0 (by simp)
  have h1 : VRel K w (.int .i64 n) v1 := hr 1 (by simp)
  cases h0
  cases h1
  obtain ⟨i, z, hi, hz, hce, hpos, hzs, hzz, hL, hone⟩ := zeroCells_rel (P := Tryd.prog) (K := K) (w := w) (e := 56) (by kernel_rfl) 0
  have h4 : i.size = 4 := hce.symm.trans (by kernel_rfl)
  have h32 : i.bytes = 32 := by
    have : Tryd.prog.bytesOf 56 = i.bytes := by simp [Program.bytesOf, hi]
    exact this.symm.trans (by kernel_rfl)
  have hd : SatM K [] w.drew := ⟨hm.kin, hm.nodup, fun k hk => by cases hk⟩
  refine (Any8.slices_Grow_grow growLays i z hi hz hpos none 0 0 n [] w (Nat.le_refl _) (by omega) (by rw [h32]; omega) (by omega) (by simp) (fun _ => rfl) (fun a h => by cases h)).mono ?_
  rintro e w' ⟨rfl, rfl⟩
  have hG : 0 + n ≤ grownCap w (0 + n) 0 (growRen.t 25) := grownCap_ge w _ _ _
  generalize grownCap w (0 + n) 0 (growRen.t 25) = G at *
  have hsz : (([] : List Value).toArray ++ Builtin.zeroCells z.cells (0 + n - 0) ++ Builtin.zeroCells z.cells (G - (0 + n))).size = G * 4 := by
    simp [Builtin.zeroCells, hzs, h4]; omega
  refine ⟨_, .rsl w.drew.heap.size 4 0 0, [⟨w.drew.heap.size, .row 4 [] 0⟩], K, rfl, ⟨w.drew.heap.size, trivial, rfl, wkMem.rfl'⟩, ?_, new_row hd _ 4 [] 0 (Nat.zero_le _) _ (fun e he => by cases he) (by simp) (fun q hq => by simp at hq), (Ext.drawn [] K w _).trans (ext_alloc hd _ _)⟩
  exact VRel.rsl (w := w.drew.alloc _) w.drew.heap.size 4 0 0 0 G (fun _ => by simp) (Nat.zero_le _) ⟨_, _, shape_new _ _, by rw [hsz]; omega⟩
end Go.Eng.YtphoefglfbifdaaDoor
end

/- slices.Concat, of rows of cells. -/
section
namespace Go.Eng.YtphoefglfbifdaaDoor
open Go Go.Eng Go.Proofs
variable (W : World)
set_option linter.unusedSimpArgs false
set_option maxRecDepth 100000
set_option linter.unusedVariables false
set_option maxHeartbeats 8000000
theorem take_flat_le (rs : List (List Cell)) (i : Nat) : ((rs.take i).flatten).length ≤ rs.flatten.length := by
  conv => rhs; rw [← List.take_append_drop i rs]
  rw [List.flatten_append, List.length_append]; omega
theorem take_flat_succ {rs : List (List Cell)} {i : Nat} {r : List Cell} (h : rs[i]? = some r) : (rs.take (i + 1)).flatten = (rs.take i).flatten ++ r := by
  rw [List.take_add_one, h]; simp
theorem concat_ok (rs : List (List Cell)) (hr : rs.length ≤ 1000) (h0 : 0 < rs.flatten.length) (hl : rs.flatten.length ≤ 100000) :
    ACalls Tryd.prog W 35 [.sl 1 (rs.map encRow)] [] (Gives (fun b : Nat => .rsl b 4 0 rs.flatten.length) (fun b => [⟨b, .row 4 (rs.flatten.map encCell) 0⟩]) (fun _ => True)) := by
  have hg := grow_ok W rs.flatten.length h0 (by omega)
  have hrl : (rs.map encRow).length = rs.length := List.length_map ..
  refine acalls_of_vc (drawOk W) Tryd.func35 rfl (by decide) (by decide) rfl ?_
  (refine g0_ ?_; repeat ((first | refine n1_ fun b_ => ?_ | refine n2_ fun b_ => ?_); refine g0_ ?_))
  refine' loopI (α := Nat) (fun i => [(11, .int .i64 i), (3, .int .i64 (rs.take i).flatten.length)]) [(0, _), (9, _), (10, _)] (fun i => []) (fun i => i ≤ rs.length) (fun i => rs.length - i) 0 ?_ ?_
  · exact Nat.zero_le _
  rintro i hi
  have hti := take_flat_le rs i
  (refine g0_ ?_; repeat ((first | refine n1_ fun b_ => ?_ | refine n2_ fun b_ => ?_); refine g0_ ?_))
  refine brec ?_; intro c_ h1; (try rw [h1]); cases c_ <;> replace h1 := nm_ h1
  · obtain rfl : i = rs.length := by omega
    rw [List.take_length]
    (refine g0_ ?_; repeat ((first | refine n1_ fun b_ => ?_ | refine n2_ fun b_ => ?_); refine g0_ ?_))
    refine ACalls.give hg ?_
    rintro b -
    (refine g0_ ?_; repeat ((first | refine n1_ fun b_ => ?_ | refine n2_ fun b_ => ?_); refine g0_ ?_))
    refine' loopI (α := Nat × Nat) (fun (j, b') => [(27, .int .i64 j), (6, .rsl b' 4 0 (rs.take j).flatten.length)]) [(25, _), (26, _)] (fun (j, b') => [⟨b', .row 4 ((rs.take j).flatten.map encCell) 0⟩]) (fun (j, b') => j ≤ rs.length) (fun (j, b') => rs.length - j) (0, b) ?_ ?_
    · exact Nat.zero_le _
    rintro ⟨j, b'⟩ hj
    dsimp only at hj ⊢
    have htj := take_flat_le rs j
    (refine g0_ ?_; repeat ((first | refine n1_ fun b_ => ?_ | refine n2_ fun b_ => ?_); refine g0_ ?_))
    refine brec ?_; intro c_ h2; (try rw [h2]); cases c_ <;> replace h2 := nm_ h2
    · obtain rfl : j = rs.length := by omega
      (refine g0_ ?_; repeat ((first | refine n1_ fun b_ => ?_ | refine n2_ fun b_ => ?_); refine g0_ ?_))
      rw [List.take_length]
      exact ⟨b', trivial, rfl, by (first | exact ⟨_, .refl _⟩ | exact wkMem.rfl' | exact ⟨_, .swap _ _ _⟩ | (repeat (first | exact wkMem.nil _ | exact wkMem.rfl' | exact wk_snoc _ _ _ | exact wk_fam (by assumption) _ _ _ | exact wk_famN (by assumption) _ _ _ | (apply wkMem.cons; (case' hl => (repeat (first | exact .here _ _ _ | apply Look.there)))) | apply wkMem.skip)))⟩
    · obtain ⟨r, hrj⟩ : ∃ r, rs[j]? = some r := ⟨rs[j]'(by omega), List.getElem?_eq_getElem _⟩
      have hx : (rs.map encRow)[j]? = some (encRow r) := by simp [hrj]
      have hs := take_flat_succ hrj
      have htj2 := take_flat_le rs (j + 1)
      rw [hs] at htj2
      have hrl2 : (r.map encCell).length = r.length := List.length_map ..
      rw [List.length_append] at htj2
      have hs2 : ((rs.take (j + 1)).flatten.length : Int) = (rs.take j).flatten.length + r.length := by rw [hs, List.length_append]; omega
      (refine g0_ ?_; repeat ((first | refine n1_ fun b_ => ?_ | refine n2_ fun b_ => ?_); refine g0_ ?_))
      refine need.mk (cells_all _) ?_
      (refine g0_ ?_; repeat ((first | refine n1_ fun b_ => ?_ | refine n2_ fun b_ => ?_); refine g0_ ?_))
      refine need.mk ⟨(List.length_map _).symm, by rw [hrl2]; show (_ + _) * 32 ≤ _; omega⟩ ?_
      (refine g0_ ?_; repeat ((first | refine n1_ fun b_ => ?_ | refine n2_ fun b_ => ?_); refine g0_ ?_))
      rw [hrl2, ← List.map_append, show (rs.take j).flatten.length + r.length = (rs.take (j + 1)).flatten.length by rw [hs, List.length_append], ← hs]
      refine nx_ (j + 1, b_) ?_ ?_
      · show j + 1 ≤ rs.length; omega
      · show rs.length - (j + 1) < rs.length - j; omega
  · obtain ⟨r, hri⟩ : ∃ r, rs[i]? = some r := ⟨rs[i]'(by omega), List.getElem?_eq_getElem _⟩
    have hx : (rs.map encRow)[i]? = some (encRow r) := by simp [hri]
    have hs := take_flat_succ hri
    have hti2 := take_flat_le rs (i + 1)
    rw [hs] at hti2
    have hrl2 : (r.map encCell).length = r.length := List.length_map ..
    rw [List.length_append] at hti2
    have hs2 : ((rs.take (i + 1)).flatten.length : Int) = (rs.take i).flatten.length + r.length := by rw [hs, List.length_append]; omega
    (refine g0_ ?_; repeat ((first | refine n1_ fun b_ => ?_ | refine n2_ fun b_ => ?_); refine g0_ ?_))
    rw [hrl2, ← hs2]
    refine nx_ (i + 1) ?_ ?_
    · show i + 1 ≤ rs.length; omega
    · show rs.length - (i + 1) < rs.length - i; omega
end Go.Eng.YtphoefglfbifdaaDoor
end

/- Calls that read rows of the call's own, written out. -/
section
namespace Go.Eng
open Go
variable {P : Program} {W : World}
/-- A call that reads what is owned as if nobody wrote it: what is to be shown of its argument at all. -/
theorem ACalls.borrowS {α : Type} {V : α → PV} {M : α → Mem} {R : α → Prop} {f : FuncId} {a a' : PV} {σ : Mem} {k : PV → Mem → Prop} (h : ACalls P W f [a'] [] (Gives V M R)) (hf : ∀ x, R x → Free (V x) ∧ FreeM (M x))
    (ha : ∀ (K : Kn) (w : World) (v : Value), SatM K σ w → VRel K w a v → VRel (allK K σ) w a' v) (hk : ∀ x, R x → k (V x) (M x ++ σ)) : ACalls P W f [a] σ k := by
  refine ⟨h.body, fun K w vs hlen hr hm hpre => ?_⟩
  have hrel : ∀ i, i < [a'].length → VRel (allK K σ) w ([a'].getD i .dead) (vs.getD i undef) := fun i hi => by
    obtain rfl : i = 0 := by simpa using hi
    exact ha K w _ hm (hr 0 (by simp))
  refine (h.run _ w vs hlen hrel (allK_sat hm) ⟨hpre.size, hpre.base, fun k hk => by cases hk⟩).mono ?_
  rintro e w' ⟨v, pv, σ', K', h2, ⟨x, hR, rfl, ρ, hρ⟩, h4, h5, h6⟩
  obtain ⟨f1, f2⟩ := hf x hR
  have h5' : SatM K' (M x) w' := (h5.perm hρ).drop (List.sublist_append_left _ _)
  have hnew : ∀ k ∈ M x, w.heap.size ≤ k.b := fun k hk => by
    rcases h6.own k (hρ.mem_iff.2 (List.mem_append_left _ hk)) with ⟨k0, h0, _⟩ | h0
    · cases h0
    · exact h0
  have hold : ∀ k ∈ σ, k.b < w.heap.size := fun k hk => (hm.blk k hk).lt
  let K2 : Kn := fun b o => K' b o ∧ ((∃ k ∈ σ, k.b = b) → K b o)
  have hK2 : ∀ b o, K b o → K2 b o ∧ w'.cell? ⟨b, o, none⟩ = w.cell? ⟨b, o, none⟩ := fun b o hb => ⟨⟨(h6.kn b o (.inl hb)).1, fun _ => hb⟩, (h6.kn b o (.inl hb)).2⟩
  refine ⟨v, V x, M x ++ σ, K2, h2, hk x hR, f1.rel h4, ⟨fun b o hb => h5.kin b o hb.1, ?_, fun k hk => ?_⟩, ?_⟩
  · rw [List.map_append, List.nodup_append]
    refine ⟨h5'.nodup, hm.nodup, fun a ha b hb e => ?_⟩
    obtain ⟨k1, g1, rfl⟩ := List.mem_map.1 ha
    obtain ⟨k2, g2, rfl⟩ := List.mem_map.1 hb
    have := hnew k1 g1
    have := hold k2 g2
    omega
  · rcases List.mem_append.1 hk with hk | hk
    · obtain ⟨sz, es, fz, hc, hes⟩ := f2 k hk
      obtain ⟨b, c⟩ := k
      obtain rfl : c = .row sz es fz := hc
      obtain ⟨g1, g2, g3, cs, ty, g4, g5, g6⟩ : RowOk K' w' b sz es fz := h5'.blk _ hk
      show RowOk K2 w' b sz es fz
      refine ⟨g1, fun o ho => g2 o ho.1, g3, cs, ty, g4, g5, fun i j hi hj => ?_⟩
      have hmem : es.getD i .dead ∈ es := by simp [List.getD_eq_getElem?_getD, hi]
      have hlen := g3 _ hmem
      refine Free.rel ((hes _ hmem).flat _ ?_) (g6 i j hi hj)
      generalize (es.getD i .dead).flat = l at hlen
      subst hlen
      simp [List.getD_eq_getElem?_getD, hj]
    · exact (hm.blk k hk).move (h6.keep k.b (hold k hk) (fun k0 h0 => by cases h0)) (fun o ho => ho.2 ⟨k, hk, rfl⟩) hK2 h6.shape
  · refine ⟨h6.os, h6.tape, h6.output, h6.size, h6.shape, fun b hb _ => h6.keep b hb (fun k0 h0 => by cases h0), hK2, fun k hk => ?_, fun b o hb => ?_⟩
    · rcases List.mem_append.1 hk with hk | hk
      · exact .inr (hnew k hk)
      · exact .inl ⟨k, hk, rfl⟩
    · rcases h6.fresh b o hb.1 with h | ⟨k0, h0, _⟩ | h
      · rcases h with h | ⟨sz, es, fz, h, _⟩
        · exact .inl h
        · exact .inr (.inl ⟨_, h, rfl⟩)
      · cases h0
      · exact .inr (.inr h)
/-- A slice of what is owned. -/
theorem sl_sem {σ : Mem} {sz : Nat} {es es' : List PV} (hl : es.length = es'.length) (h0 : es ≠ []) (hz : ∀ e ∈ es', e.flat.length = sz) (hF : ∀ i j, i < es.length → j < sz → Frz σ ((es.getD i .dead).flat.getD j .dead) ((es'.getD i .dead).flat.getD j .dead)) (K : Kn) (w : World) (v : Value) (hm : SatM K σ w) (hv : VRel K w (.sl sz es) v) : VRel (allK K σ) w (.sl sz es') v := by
  cases hv with
  | sl0 => exact absurd rfl h0
  | sl _ _ b o cap hcap vs hz1 hk hv =>
    rw [hl]
    exact .sl sz es' b o cap (hl ▸ hcap) vs hz (fun i j hi hj => ⟨.inl (hk i j (hl ▸ hi) hj).1, (hk i j (hl ▸ hi) hj).2⟩) fun i j hi hj => frz_sound hm (hF i j (hl ▸ hi) hj) _ (hv i j (hl ▸ hi) hj)
end Go.Eng
namespace Go.Eng.YtphoefglfbifdaaDoor
open Go Go.Eng Go.Proofs
variable (W : World)
set_option linter.unusedSimpArgs false
set_option maxRecDepth 100000
set_option linter.unusedVariables false
set_option maxHeartbeats 8000000
theorem frz_seg {σ r : Mem} {b : Nat} {l : List Cell} (h : Look σ b (.row 4 (l.map encCell) 0) r) (i n : Nat) (hi : i + n ≤ l.length) : Frz σ (.rsl b 4 i n) (encRow ((l.drop i).take n)) := by
  refine Frz.rsl b 4 i n (l.map encCell) (((l.drop i).take n).map encCell) 0 r h (by rw [List.length_map]; exact hi) (by simp; omega) fun j hj => ?_
  rw [show ((l.map encCell).getD (i + j) .dead) = ((((l.drop i).take n).map encCell).getD j .dead) by
    rw [List.getD_eq_getElem?_getD, List.getD_eq_getElem?_getD, List.getElem?_map, List.getElem?_map, List.getElem?_take, if_pos hj, List.getElem?_drop]]
  exact .refl _
theorem sem_three {σ : Mem} {v1 v2 v3 : PV} {r1 r2 r3 : List Cell} (f1 : v1.flat = [v1]) (f2 : v2.flat = [v2]) (f3 : v3.flat = [v3]) (h1 : Frz σ v1 (encRow r1)) (h2 : Frz σ v2 (encRow r2)) (h3 : Frz σ v3 (encRow r3)) (K : Kn) (w : World) (v : Value) : SatM K σ w → VRel K w (.sl 1 [v1, v2, v3]) v → VRel (allK K σ) w (.sl 1 ([r1, r2, r3].map encRow)) v := by
  refine sl_sem (es := [v1, v2, v3]) (es' := [r1, r2, r3].map encRow) rfl (fun h => by cases h) (fun e he => ?_) (fun i j hi hj => ?_) K w v
  · obtain ⟨r, _, rfl⟩ := List.mem_map.1 he
    rfl
  · obtain rfl : j = 0 := by omega
    match i, hi with
    | 0, _ => show Frz σ (v1.flat.getD 0 .dead) _; rw [f1]; exact h1
    | 1, _ => show Frz σ (v2.flat.getD 0 .dead) _; rw [f2]; exact h2
    | 2, _ => show Frz σ (v3.flat.getD 0 .dead) _; rw [f3]; exact h3
end Go.Eng.YtphoefglfbifdaaDoor
end
