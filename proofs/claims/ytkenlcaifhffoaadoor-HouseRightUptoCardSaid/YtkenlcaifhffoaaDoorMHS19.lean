/- Texts put together: HsD1, HsD2, HsD3, HsD4. -/
import Derived.Deep.RegionLaw
import Derived.Deep.LoopGhost
import Derived.Lib.Walk
import Derived.Lib.SliceRun
import Derived.Lib.SlicesDelete
import Derived.Sort.WalkB12
import Derived.Shelf.Spec.SlicesInsert
import Derived.Test.YtkenlcaifhffoaaDoorME3
import Derived.Test.YtkenlcaifhffoaaDoorMRE
import Derived.Laws.IdiomCopy
/- slices.Delete of one of windows: by the kit's walk. -/
section
namespace Go.Eng.YtkenlcaifhffoaaDoor
open Go Go.Eng Go.Proofs Go.RowKit Go.Lib
set_option linter.unusedSimpArgs false
set_option maxRecDepth 1000000
set_option linter.unusedVariables false
set_option maxHeartbeats 8000000
theorem run_clear_oneH {P : Program} (w : World) (t e ty : TypeId) (z : Value) (ht : P.underlying t = some (.slice e)) (hv : ∀ w, (zeroValue e).run P w = .ok z w) (zs : List Value) (hz : z.cells = zs.toArray) (h1 : ∀ v ∈ zs, v.oneCell' = true) (b o c : Nat)
    (hc : ∀ j, j < zs.length → (w.cell? ⟨b, o + j, none⟩).isSome = true) (hf : ∀ j, j < zs.length → w.frozen? ⟨b, o + j, none⟩ = false) :
    (Builtin.clear_ #[t] ty #[.slice (some ⟨b, o, none⟩) 1 c]).run P w = .ok (.tuple #[]) (w.setCells b o zs) := by
  have hzc : (Builtin.zeroCells z.cells 1).toList = zs := by
    rw [hz]
    apply List.ext_getElem
    · simp [Builtin.zeroCells]
    · intro i h1 h2
      simp [Builtin.zeroCells, Nat.mod_eq_of_lt h2, h2]
  have hst := run_storeCells_cells (P := P) b o zs 0 w hc hf h1
  simp only [Nat.add_zero] at hst
  simp [Builtin.clear_, run_underlying ht, hv, hzc, hst]
def zsWnD : List Value := [.string ⟨#[]⟩, .int .i64 0, .int .i64 0, .int .i64 0, .slice none 0 0, .int .i64 0, .int .i64 0, .bool false]
theorem del_rawWnD (b off cap i j m : Nat) (hj : j = i + 1) (cs : List Value) (hm : cs.length = m * 8) (w : World) (hH : ∀ t v, cs[t]? = some v → w.cell? ⟨b, off + t, none⟩ = some v ∧ w.frozen? ⟨b, off + t, none⟩ = false) (hone : ∀ v ∈ cs, v.oneCell' = true) (hi : i < m) (hcap : m ≤ cap) :
    Calls Tryd.prog 42 #[.slice (some ⟨b, off, none⟩) m cap, .int .i64 i, .int .i64 j] w fun e w' =>
      e = .returned (.slice (some ⟨b, off, none⟩) (m - 1) cap) ∧ w' = (w.drew.setCells b (off + i * 8) (cs.drop (j * 8))).setCells b (off + (m - 1) * 8) zsWnD := by
  have mixed : Tryd.prog.follows .mixedOrders = true := by kernel_rfl
  have t30 := Tryd.underlying71
  have a30 := Tryd.isAgg71
  have z30 := Tryd.sizeOf71
  have v30 := Tryd.zeroValue71
  have t3 := Tryd.underlying3
  have v22 := Tryd.zeroValue66
  have z22 := Tryd.sizeOf66
  obtain ⟨i0, z0, hi0, hz0, hce, hpos, hzs, hzz, hL, hone0⟩ := zeroCells_rel (P := Tryd.prog) (K := fun _ _ => False) (w := w) (e := 66) (by kernel_rfl) 0
  have h1 : i0.size = 8 := hce.symm.trans (by kernel_rfl)
  clear hzz hL hone0 hzs hpos hce
  obtain ⟨news, hnews⟩ : ∃ news, news = cs.drop (j * 8) := ⟨_, rfl⟩
  obtain ⟨n, hn⟩ : ∃ n, n = m := ⟨_, rfl⟩
  have hlen : news.length = (n - j) * 8 := by rw [hnews, List.length_drop, hn, hm]; omega
  have hget : ∀ t u, news[t]? = some u → w.cell? ⟨b, off + (j * 8 + t), none⟩ = some u := fun t u hu => (hH (j * 8 + t) u (by rw [hnews, List.getElem?_drop] at hu; exact hu)).1
  have hcell : ∀ t, t < n * 8 → (w.cell? ⟨b, off + t, none⟩).isSome = true ∧ w.frozen? ⟨b, off + t, none⟩ = false := fun t ht => by
    have := hH t _ (List.getElem?_eq_getElem (by omega))
    exact ⟨by rw [this.1]; rfl, this.2⟩
  obtain ⟨A, hA, hsrc⟩ : ∃ A : Addr, (if cap = j then some (⟨b, off, none⟩ : Addr) else some ⟨b, off + j * 8, none⟩) = some A ∧ Hid (∀ t u, news[t]? = some u → w.drew.cell? (A.add t) = some u) := by
    by_cases h : cap = j
    · refine ⟨⟨b, off, none⟩, by simp [h], fun t u hu => ?_⟩
      have h0 : news.length = 0 := by rw [hlen]; omega
      rw [List.length_eq_zero_iff.1 h0] at hu
      simp at hu
    · refine ⟨⟨b, off + j * 8, none⟩, by simp [h], fun t u hu => ?_⟩
      rw [Addr.add_lit, Nat.add_assoc]
      exact hget t u hu
  have s1 : Hid (news.length = (n - j) * 8) := hlen
  have s2 : Hid (∀ u ∈ news, u.oneCell' = true) := fun u hu => hone u (by rw [hnews] at hu; exact List.mem_of_mem_drop hu)
  have s3 : Hid (∀ t, t < news.length → (w.drew.cell? ⟨b, off + i * 8 + t, none⟩).isSome = true ∧ w.drew.frozen? ⟨b, off + i * 8 + t, none⟩ = false) := fun t ht => by
    rw [show off + i * 8 + t = off + (i * 8 + t) by omega]
    exact hcell (i * 8 + t) (by omega)
  obtain ⟨W1, hW1⟩ : ∃ W1, W1 = w.drew.setCells b (off + i * 8) news := ⟨_, rfl⟩
  have hW1c : ∀ t, t < n * 8 → (W1.cell? ⟨b, off + t, none⟩).isSome = true ∧ W1.frozen? ⟨b, off + t, none⟩ = false := fun t ht => by
    rw [hW1]
    exact ⟨isSome_setCells b news _ _ (fun u hu => by rw [show off + i * 8 + u = off + (i * 8 + u) by omega]; exact (hcell (i * 8 + u) (by omega)).1) _ (hcell t ht).1, by rw [World.frozen?_setCells]; exact (hcell t ht).2⟩
  have hcl : ∀ ty, (Builtin.clear_ #[71] ty #[.slice (some ⟨b, off + (i + (n - j)) * 8, none⟩) (n - (i + (n - j))) (cap - (i + (n - j)))]).run Tryd.prog W1 = .ok (.tuple #[]) (W1.setCells b (off + (i + (n - j)) * 8) zsWnD) := fun ty => by
    rw [show n - (i + (n - j)) = 1 by omega]
    exact run_clear_oneH W1 _ _ ty _ t30 v22 zsWnD rfl (by decide) b _ _ (fun t ht => by
      have h5 : t < 8 := ht
      rw [show off + (i + (n - j)) * 8 + t = off + ((i + (n - j)) * 8 + t) by omega]; exact (hW1c _ (by omega)).1) (fun t ht => by
      have h5 : t < 8 := ht
      rw [show off + (i + (n - j)) * 8 + t = off + ((i + (n - j)) * 8 + t) by omega]; exact (hW1c _ (by omega)).2)
  have hW : Hid (W1 = w.drew.setCells b (off + i * 8) news) := hW1
  have hic : i ≤ cap := by omega
  have hjc : j ≤ cap := by omega
  have hjn : j ≤ n := by omega
  have hlt : i < j := by omega
  have hJ : Hid (j = i + 1) := hj
  rw [← hn] at hcap ⊢
  rw [← hnews]
  clear hW1 hW1c hget hcell hone hH hnews hlen hn hi hj hm
  go_enter Tryd.func42, Tryd.ntmps42
  go_wp2_with fail
  go_region_law_o (refine step_append_room rfl (.tmp 22) (.tmp 25) 71 rfl 66 i0 8 t30 hi0 h1 b off i cap (by simp [Act.eval, Act.put]) A (n - j) (cap - j) news (by simp [Act.eval, Act.put]) s1.out hsrc.out s2.out (by omega) s3.out ?_; rw [← hW.out])
  go_wp2
  go_ret
  rw [show i + (n - j) = n - 1 by have := hJ.out; omega, hW.out]
  exact ⟨rfl, rfl⟩
end Go.Eng.YtkenlcaifhffoaaDoor
end

/- slices.Delete of one of windows. -/
section
namespace Go.Eng.YtkenlcaifhffoaaDoor
open Go Go.Eng Go.Proofs
variable (W : World)
set_option linter.unusedSimpArgs false
set_option maxRecDepth 100000
set_option linter.unusedVariables false
set_option maxHeartbeats 4000000
theorem store_setWnD {P : Program} {w w' : World} {b o : Nat} {vs : List Value} (h : (storeCells ⟨b, o, none⟩ vs).run P w = .ok () w') (hc : ∀ j, j < vs.length → (w.cell? ⟨b, o + j, none⟩).isSome = true ∧ w.frozen? ⟨b, o + j, none⟩ = false) (h1 : ∀ v ∈ vs, v.oneCell' = true) : w' = w.setCells b o vs := by
  have := run_storeCells_cells (P := P) b o vs 0 w (fun j hj => (hc j hj).1) (fun j hj => (hc j hj).2) h1
  rw [h] at this
  exact (Result.ok.inj this).2
def zWnD : PV := .agg [.str [], .int .i64 0, .int .i64 0, .int .i64 0, .nils, .int .i64 0, .int .i64 0, .bool false]
theorem delWnD_ok (b i j : Nat) (hj : j = i + 1) (es : List PV) (hc : es.all cellsB = true) (hi : i < es.length) :
    ACalls Tryd.prog W 42 [.rsl b 8 0 es.length, .int .i64 i, .int .i64 j] [⟨b, .row 8 es 0⟩]
      (Gives (fun _ : Unit => .rsl b 8 0 (es.length - 1)) (fun _ => [⟨b, .row 8 (es.take i ++ es.drop j ++ [zWnD]) 0⟩]) (fun _ => True)) := by
  refine ⟨⟨_, Tryd.func42, by kernel_rfl, by kernel_rfl⟩, fun K w vs hl hr hm hp => ?_⟩
  obtain ⟨v0, v1, v2, rfl⟩ : ∃ v0 v1 v2, vs = [v0, v1, v2] := by
    match vs, hl with
    | [a, b, c], _ => exact ⟨a, b, c, rfl⟩
  have q0 : VRel K w (.rsl b 8 0 es.length) v0 := hr 0 (by simp)
  have q1 : VRel K w (.int .i64 i) v1 := hr 1 (by simp)
  have q2 : VRel K w (.int .i64 j) v2 := hr 2 (by simp)
  cases q1
  cases q2
  cases q0
  rename_i o cap hsh hcap ho
  obtain rfl : o = 0 := by simpa using ho (.inr rfl)
  have hro : RowOk K w b 8 es 0 := hm.blk ⟨b, .row 8 es 0⟩ List.mem_cons_self
  obtain ⟨cs, ty, g1, g2, g3⟩ := hro.flats
  have hfl := flats_length hro.hz
  obtain ⟨vals, hv⟩ : ∃ vals, vals = (List.range (es.length * 8)).map fun t => cs.getD t undef := ⟨_, rfl⟩
  have hvl : vals.length = es.length * 8 := by rw [hv]; simp
  have hva : ∀ t, t < es.length * 8 → vals[t]? = some (cs.getD t undef) := fun t ht => by rw [hv, List.getElem?_map, List.getElem?_range ht]; rfl
  have hL : LRel K w (flats es) vals := ⟨by rw [hfl, hvl], fun t ht => by
    rw [hfl] at ht
    rw [List.getD_eq_getElem?_getD (l := vals), hva t ht, Option.getD_some]
    exact g3 t ht⟩
  have hone := one_of_cellsB hL (fun y hy => List.all_eq_true.1 hc y hy)
  have hcell : ∀ t v, vals[t]? = some v → w.cell? ⟨b, 0 + t, none⟩ = some v ∧ w.frozen? ⟨b, 0 + t, none⟩ = false := fun t v htv => by
    have ht : t < es.length * 8 := by rw [← hvl]; exact (List.getElem?_eq_some_iff.1 htv).1
    rw [hva t ht] at htv
    rw [Nat.zero_add, Lib.cell_of_heap g1, Lib.frozen_of_heap g1]
    refine ⟨?_, rfl⟩
    rw [← Option.some.inj htv, Array.getD_eq_getD_getElem?, Array.getElem?_eq_getElem (by omega)]; rfl
  have hdel := del_rawWnD b 0 cap i j es.length hj vals hvl w hcell hone hi (by omega)
  refine hdel.mono ?_
  rintro e w' ⟨rfl, hw'⟩
  subst hj
  have hmd : SatM K [⟨b, .row 8 es 0⟩] w.drew := hm.drawn _
  have hLd : LRel K w.drew (flats (es.drop (i + 1))) (vals.drop ((i + 1) * 8)) := by
    have h3 : flats es = flats (es.take (i + 1)) ++ flats (es.drop (i + 1)) := by rw [← flats_append, List.take_append_drop]
    have h4 : (flats (es.take (i + 1))).length = (i + 1) * 8 := by rw [flats_length (fun e he => hro.hz e (List.mem_of_mem_take he)), List.length_take]; omega
    have h5 : (flats (es.drop (i + 1))).length = (es.length - (i + 1)) * 8 := by rw [flats_length (fun e he => hro.hz e (List.mem_of_mem_drop he)), List.length_drop]
    refine ⟨by rw [h5, List.length_drop, hvl]; omega, fun t ht => ?_⟩
    rw [h5] at ht
    have h6 := hL.2 ((i + 1) * 8 + t) (by rw [hfl]; omega)
    rw [h3, List.getD_eq_getElem?_getD, List.getElem?_append_right (by omega), h4, Nat.add_sub_cancel_left] at h6
    rw [List.getD_eq_getElem?_getD, List.getD_eq_getElem?_getD, List.getElem?_drop]
    rw [List.getD_eq_getElem?_getD] at h6
    exact VRel.mono (w := w) (w' := w.drew) (fun _ _ h => ⟨h, rfl⟩) (fun _ _ h => h) h6
  obtain ⟨w1, s1, s2, s3⟩ := over_row (P := Tryd.prog) (ys := es.drop (i + 1)) (vs := vals.drop ((i + 1) * 8)) (i := i) hmd (.here _ _ _) (by simp; omega) (Nat.zero_le _) (fun y hy => hro.hz y (List.mem_of_mem_drop hy)) hLd (fun v hv => hone v (List.mem_of_mem_drop hv))
  have hc0 : ∀ t, t < es.length * 8 → (w.cell? ⟨b, t, none⟩).isSome = true ∧ w.frozen? ⟨b, t, none⟩ = false := fun t ht => by
    have := hcell t _ (hva t ht)
    rw [Nat.zero_add] at this
    exact ⟨by rw [this.1]; rfl, this.2⟩
  have e1 := store_setWnD s1 (fun t ht => hc0 (i * 8 + t) (by rw [List.length_drop, hvl] at ht; omega)) (fun v hv => hone v (List.mem_of_mem_drop hv))
  obtain ⟨w2, u1, u2, u3⟩ := over_row (P := Tryd.prog) (ys := [zWnD]) (vs := zsWnD) (i := es.length - 1) s2 (.here _ _ _) (by simp; omega) (Nat.zero_le _) (fun y hy => by rw [List.mem_singleton.1 hy]; rfl) ⟨rfl, fun t ht => by
    change t < 8 at ht
    match t, ht with
    | 0, _ => exact .str _
    | 1, _ => exact .int _ _
    | 2, _ => exact .int _ _
    | 3, _ => exact .int _ _
    | 4, _ => exact .nils
    | 5, _ => exact .int _ _
    | 6, _ => exact .int _ _
    | 7, _ => exact .bool _⟩ (by decide)
  have e2 := store_setWnD u1 (fun t ht => by
    have h5 : t < 8 := ht
    rw [e1, World.frozen?_setCells]
    exact ⟨isSome_setCells b (vals.drop ((i + 1) * 8)) (i * 8) w.drew (fun q hq => (hc0 (i * 8 + q) (by rw [List.length_drop, hvl] at hq; omega)).1) _ (hc0 ((es.length - 1) * 8 + t) (by omega)).1, (hc0 ((es.length - 1) * 8 + t) (by omega)).2⟩) (by decide)
  have e3 : w' = w2 := by rw [hw', e2, e1, Nat.zero_add, Nat.zero_add]
  subst e3
  have hX : (es.take i ++ es.drop (i + 1) ++ es.drop (i + (es.drop (i + 1)).length)).take (es.length - 1) ++ [zWnD] ++ (es.take i ++ es.drop (i + 1) ++ es.drop (i + (es.drop (i + 1)).length)).drop (es.length - 1 + [zWnD].length) = es.take i ++ es.drop (i + 1) ++ [zWnD] := by
    have hn : (es.take i ++ es.drop (i + 1)).length = es.length - 1 := by simp; omega
    have hD : (es.drop (i + (es.drop (i + 1)).length)).length = 1 := by rw [List.length_drop, List.length_drop]; omega
    rw [List.take_left' hn, show (es.take i ++ es.drop (i + 1) ++ es.drop (i + (es.drop (i + 1)).length)).drop (es.length - 1 + [zWnD].length) = [] from List.drop_eq_nil_of_le (by rw [List.length_append, hn, hD]; exact Nat.le_refl _), List.append_nil]
  rw [hX] at u2 u3
  have hx := ((Ext.drawn [⟨b, .row 8 es 0⟩] K w _).trans s3).trans u3
  obtain ⟨e, m, m1, m2⟩ := hsh
  exact ⟨_, .rsl b 8 0 (es.length - 1), _, K, rfl, ⟨(), trivial, rfl, wkMem.rfl'⟩, .rsl b 8 0 _ 0 cap (fun _ => by simp) (by omega) ⟨e, m, hx.shape _ _ m1, m2⟩, u2, hx⟩
end Go.Eng.YtkenlcaifhffoaaDoor
end

/- slices.Delete of one of sessions: by the kit's walk. -/
section
namespace Go.Eng.YtkenlcaifhffoaaDoor
open Go Go.Eng Go.Proofs Go.RowKit Go.Lib
set_option linter.unusedSimpArgs false
set_option maxRecDepth 1000000
set_option linter.unusedVariables false
set_option maxHeartbeats 8000000
def zsSnD : List Value := [.string ⟨#[]⟩, .slice none 0 0, .int .i64 0, .int .i64 0]
theorem del_rawSnD (b off cap i j m : Nat) (hj : j = i + 1) (cs : List Value) (hm : cs.length = m * 4) (w : World) (hH : ∀ t v, cs[t]? = some v → w.cell? ⟨b, off + t, none⟩ = some v ∧ w.frozen? ⟨b, off + t, none⟩ = false) (hone : ∀ v ∈ cs, v.oneCell' = true) (hi : i < m) (hcap : m ≤ cap) :
    Calls Tryd.prog 41 #[.slice (some ⟨b, off, none⟩) m cap, .int .i64 i, .int .i64 j] w fun e w' =>
      e = .returned (.slice (some ⟨b, off, none⟩) (m - 1) cap) ∧ w' = (w.drew.setCells b (off + i * 4) (cs.drop (j * 4))).setCells b (off + (m - 1) * 4) zsSnD := by
  have mixed : Tryd.prog.follows .mixedOrders = true := by kernel_rfl
  have t30 := Tryd.underlying22
  have a30 := Tryd.isAgg22
  have z30 := Tryd.sizeOf22
  have v30 := Tryd.zeroValue22
  have t3 := Tryd.underlying3
  have v22 := Tryd.zeroValue73
  have z22 := Tryd.sizeOf73
  obtain ⟨i0, z0, hi0, hz0, hce, hpos, hzs, hzz, hL, hone0⟩ := zeroCells_rel (P := Tryd.prog) (K := fun _ _ => False) (w := w) (e := 73) (by kernel_rfl) 0
  have h1 : i0.size = 4 := hce.symm.trans (by kernel_rfl)
  clear hzz hL hone0 hzs hpos hce
  obtain ⟨news, hnews⟩ : ∃ news, news = cs.drop (j * 4) := ⟨_, rfl⟩
  obtain ⟨n, hn⟩ : ∃ n, n = m := ⟨_, rfl⟩
  have hlen : news.length = (n - j) * 4 := by rw [hnews, List.length_drop, hn, hm]; omega
  have hget : ∀ t u, news[t]? = some u → w.cell? ⟨b, off + (j * 4 + t), none⟩ = some u := fun t u hu => (hH (j * 4 + t) u (by rw [hnews, List.getElem?_drop] at hu; exact hu)).1
  have hcell : ∀ t, t < n * 4 → (w.cell? ⟨b, off + t, none⟩).isSome = true ∧ w.frozen? ⟨b, off + t, none⟩ = false := fun t ht => by
    have := hH t _ (List.getElem?_eq_getElem (by omega))
    exact ⟨by rw [this.1]; rfl, this.2⟩
  obtain ⟨A, hA, hsrc⟩ : ∃ A : Addr, (if cap = j then some (⟨b, off, none⟩ : Addr) else some ⟨b, off + j * 4, none⟩) = some A ∧ Hid (∀ t u, news[t]? = some u → w.drew.cell? (A.add t) = some u) := by
    by_cases h : cap = j
    · refine ⟨⟨b, off, none⟩, by simp [h], fun t u hu => ?_⟩
      have h0 : news.length = 0 := by rw [hlen]; omega
      rw [List.length_eq_zero_iff.1 h0] at hu
      simp at hu
    · refine ⟨⟨b, off + j * 4, none⟩, by simp [h], fun t u hu => ?_⟩
      rw [Addr.add_lit, Nat.add_assoc]
      exact hget t u hu
  have s1 : Hid (news.length = (n - j) * 4) := hlen
  have s2 : Hid (∀ u ∈ news, u.oneCell' = true) := fun u hu => hone u (by rw [hnews] at hu; exact List.mem_of_mem_drop hu)
  have s3 : Hid (∀ t, t < news.length → (w.drew.cell? ⟨b, off + i * 4 + t, none⟩).isSome = true ∧ w.drew.frozen? ⟨b, off + i * 4 + t, none⟩ = false) := fun t ht => by
    rw [show off + i * 4 + t = off + (i * 4 + t) by omega]
    exact hcell (i * 4 + t) (by omega)
  obtain ⟨W1, hW1⟩ : ∃ W1, W1 = w.drew.setCells b (off + i * 4) news := ⟨_, rfl⟩
  have hW1c : ∀ t, t < n * 4 → (W1.cell? ⟨b, off + t, none⟩).isSome = true ∧ W1.frozen? ⟨b, off + t, none⟩ = false := fun t ht => by
    rw [hW1]
    exact ⟨isSome_setCells b news _ _ (fun u hu => by rw [show off + i * 4 + u = off + (i * 4 + u) by omega]; exact (hcell (i * 4 + u) (by omega)).1) _ (hcell t ht).1, by rw [World.frozen?_setCells]; exact (hcell t ht).2⟩
  have hcl : ∀ ty, (Builtin.clear_ #[22] ty #[.slice (some ⟨b, off + (i + (n - j)) * 4, none⟩) (n - (i + (n - j))) (cap - (i + (n - j)))]).run Tryd.prog W1 = .ok (.tuple #[]) (W1.setCells b (off + (i + (n - j)) * 4) zsSnD) := fun ty => by
    rw [show n - (i + (n - j)) = 1 by omega]
    exact run_clear_oneH W1 _ _ ty _ t30 v22 zsSnD rfl (by decide) b _ _ (fun t ht => by
      have h5 : t < 4 := ht
      rw [show off + (i + (n - j)) * 4 + t = off + ((i + (n - j)) * 4 + t) by omega]; exact (hW1c _ (by omega)).1) (fun t ht => by
      have h5 : t < 4 := ht
      rw [show off + (i + (n - j)) * 4 + t = off + ((i + (n - j)) * 4 + t) by omega]; exact (hW1c _ (by omega)).2)
  have hW : Hid (W1 = w.drew.setCells b (off + i * 4) news) := hW1
  have hic : i ≤ cap := by omega
  have hjc : j ≤ cap := by omega
  have hjn : j ≤ n := by omega
  have hlt : i < j := by omega
  have hJ : Hid (j = i + 1) := hj
  rw [← hn] at hcap ⊢
  rw [← hnews]
  clear hW1 hW1c hget hcell hone hH hnews hlen hn hi hj hm
  go_enter Tryd.func41, Tryd.ntmps41
  go_wp2_with fail
  go_region_law_o (refine step_append_room rfl (.tmp 22) (.tmp 25) 22 rfl 73 i0 4 t30 hi0 h1 b off i cap (by simp [Act.eval, Act.put]) A (n - j) (cap - j) news (by simp [Act.eval, Act.put]) s1.out hsrc.out s2.out (by omega) s3.out ?_; rw [← hW.out])
  go_wp2
  go_ret
  rw [show i + (n - j) = n - 1 by have := hJ.out; omega, hW.out]
  exact ⟨rfl, rfl⟩
end Go.Eng.YtkenlcaifhffoaaDoor
end

/- slices.Delete of one of sessions. -/
section
namespace Go.Eng.YtkenlcaifhffoaaDoor
open Go Go.Eng Go.Proofs
variable (W : World)
set_option linter.unusedSimpArgs false
set_option maxRecDepth 100000
set_option linter.unusedVariables false
set_option maxHeartbeats 4000000
theorem store_setSnD {P : Program} {w w' : World} {b o : Nat} {vs : List Value} (h : (storeCells ⟨b, o, none⟩ vs).run P w = .ok () w') (hc : ∀ j, j < vs.length → (w.cell? ⟨b, o + j, none⟩).isSome = true ∧ w.frozen? ⟨b, o + j, none⟩ = false) (h1 : ∀ v ∈ vs, v.oneCell' = true) : w' = w.setCells b o vs := by
  have := run_storeCells_cells (P := P) b o vs 0 w (fun j hj => (hc j hj).1) (fun j hj => (hc j hj).2) h1
  rw [h] at this
  exact (Result.ok.inj this).2
def zSnD : PV := .agg [.str [], .nils, .int .i64 0, .int .i64 0]
theorem delSnD_ok (b i j : Nat) (hj : j = i + 1) (es : List PV) (hc : es.all cellsB = true) (hi : i < es.length) :
    ACalls Tryd.prog W 41 [.rsl b 4 0 es.length, .int .i64 i, .int .i64 j] [⟨b, .row 4 es 0⟩]
      (Gives (fun _ : Unit => .rsl b 4 0 (es.length - 1)) (fun _ => [⟨b, .row 4 (es.take i ++ es.drop j ++ [zSnD]) 0⟩]) (fun _ => True)) := by
  refine ⟨⟨_, Tryd.func41, by kernel_rfl, by kernel_rfl⟩, fun K w vs hl hr hm hp => ?_⟩
  obtain ⟨v0, v1, v2, rfl⟩ : ∃ v0 v1 v2, vs = [v0, v1, v2] := by
    match vs, hl with
    | [a, b, c], _ => exact ⟨a, b, c, rfl⟩
  have q0 : VRel K w (.rsl b 4 0 es.length) v0 := hr 0 (by simp)
  have q1 : VRel K w (.int .i64 i) v1 := hr 1 (by simp)
  have q2 : VRel K w (.int .i64 j) v2 := hr 2 (by simp)
  cases q1
  cases q2
  cases q0
  rename_i o cap hsh hcap ho
  obtain rfl : o = 0 := by simpa using ho (.inr rfl)
  have hro : RowOk K w b 4 es 0 := hm.blk ⟨b, .row 4 es 0⟩ List.mem_cons_self
  obtain ⟨cs, ty, g1, g2, g3⟩ := hro.flats
  have hfl := flats_length hro.hz
  obtain ⟨vals, hv⟩ : ∃ vals, vals = (List.range (es.length * 4)).map fun t => cs.getD t undef := ⟨_, rfl⟩
  have hvl : vals.length = es.length * 4 := by rw [hv]; simp
  have hva : ∀ t, t < es.length * 4 → vals[t]? = some (cs.getD t undef) := fun t ht => by rw [hv, List.getElem?_map, List.getElem?_range ht]; rfl
  have hL : LRel K w (flats es) vals := ⟨by rw [hfl, hvl], fun t ht => by
    rw [hfl] at ht
    rw [List.getD_eq_getElem?_getD (l := vals), hva t ht, Option.getD_some]
    exact g3 t ht⟩
  have hone := one_of_cellsB hL (fun y hy => List.all_eq_true.1 hc y hy)
  have hcell : ∀ t v, vals[t]? = some v → w.cell? ⟨b, 0 + t, none⟩ = some v ∧ w.frozen? ⟨b, 0 + t, none⟩ = false := fun t v htv => by
    have ht : t < es.length * 4 := by rw [← hvl]; exact (List.getElem?_eq_some_iff.1 htv).1
    rw [hva t ht] at htv
    rw [Nat.zero_add, Lib.cell_of_heap g1, Lib.frozen_of_heap g1]
    refine ⟨?_, rfl⟩
    rw [← Option.some.inj htv, Array.getD_eq_getD_getElem?, Array.getElem?_eq_getElem (by omega)]; rfl
  have hdel := del_rawSnD b 0 cap i j es.length hj vals hvl w hcell hone hi (by omega)
  refine hdel.mono ?_
  rintro e w' ⟨rfl, hw'⟩
  subst hj
  have hmd : SatM K [⟨b, .row 4 es 0⟩] w.drew := hm.drawn _
  have hLd : LRel K w.drew (flats (es.drop (i + 1))) (vals.drop ((i + 1) * 4)) := by
    have h3 : flats es = flats (es.take (i + 1)) ++ flats (es.drop (i + 1)) := by rw [← flats_append, List.take_append_drop]
    have h4 : (flats (es.take (i + 1))).length = (i + 1) * 4 := by rw [flats_length (fun e he => hro.hz e (List.mem_of_mem_take he)), List.length_take]; omega
    have h5 : (flats (es.drop (i + 1))).length = (es.length - (i + 1)) * 4 := by rw [flats_length (fun e he => hro.hz e (List.mem_of_mem_drop he)), List.length_drop]
    refine ⟨by rw [h5, List.length_drop, hvl]; omega, fun t ht => ?_⟩
    rw [h5] at ht
    have h6 := hL.2 ((i + 1) * 4 + t) (by rw [hfl]; omega)
    rw [h3, List.getD_eq_getElem?_getD, List.getElem?_append_right (by omega), h4, Nat.add_sub_cancel_left] at h6
    rw [List.getD_eq_getElem?_getD, List.getD_eq_getElem?_getD, List.getElem?_drop]
    rw [List.getD_eq_getElem?_getD] at h6
    exact VRel.mono (w := w) (w' := w.drew) (fun _ _ h => ⟨h, rfl⟩) (fun _ _ h => h) h6
  obtain ⟨w1, s1, s2, s3⟩ := over_row (P := Tryd.prog) (ys := es.drop (i + 1)) (vs := vals.drop ((i + 1) * 4)) (i := i) hmd (.here _ _ _) (by simp; omega) (Nat.zero_le _) (fun y hy => hro.hz y (List.mem_of_mem_drop hy)) hLd (fun v hv => hone v (List.mem_of_mem_drop hv))
  have hc0 : ∀ t, t < es.length * 4 → (w.cell? ⟨b, t, none⟩).isSome = true ∧ w.frozen? ⟨b, t, none⟩ = false := fun t ht => by
    have := hcell t _ (hva t ht)
    rw [Nat.zero_add] at this
    exact ⟨by rw [this.1]; rfl, this.2⟩
  have e1 := store_setSnD s1 (fun t ht => hc0 (i * 4 + t) (by rw [List.length_drop, hvl] at ht; omega)) (fun v hv => hone v (List.mem_of_mem_drop hv))
  obtain ⟨w2, u1, u2, u3⟩ := over_row (P := Tryd.prog) (ys := [zSnD]) (vs := zsSnD) (i := es.length - 1) s2 (.here _ _ _) (by simp; omega) (Nat.zero_le _) (fun y hy => by rw [List.mem_singleton.1 hy]; rfl) ⟨rfl, fun t ht => by
    change t < 4 at ht
    match t, ht with
    | 0, _ => exact .str _
    | 1, _ => exact .nils
    | 2, _ => exact .int _ _
    | 3, _ => exact .int _ _⟩ (by decide)
  have e2 := store_setSnD u1 (fun t ht => by
    have h5 : t < 4 := ht
    rw [e1, World.frozen?_setCells]
    exact ⟨isSome_setCells b (vals.drop ((i + 1) * 4)) (i * 4) w.drew (fun q hq => (hc0 (i * 4 + q) (by rw [List.length_drop, hvl] at hq; omega)).1) _ (hc0 ((es.length - 1) * 4 + t) (by omega)).1, (hc0 ((es.length - 1) * 4 + t) (by omega)).2⟩) (by decide)
  have e3 : w' = w2 := by rw [hw', e2, e1, Nat.zero_add, Nat.zero_add]
  subst e3
  have hX : (es.take i ++ es.drop (i + 1) ++ es.drop (i + (es.drop (i + 1)).length)).take (es.length - 1) ++ [zSnD] ++ (es.take i ++ es.drop (i + 1) ++ es.drop (i + (es.drop (i + 1)).length)).drop (es.length - 1 + [zSnD].length) = es.take i ++ es.drop (i + 1) ++ [zSnD] := by
    have hn : (es.take i ++ es.drop (i + 1)).length = es.length - 1 := by simp; omega
    have hD : (es.drop (i + (es.drop (i + 1)).length)).length = 1 := by rw [List.length_drop, List.length_drop]; omega
    rw [List.take_left' hn, show (es.take i ++ es.drop (i + 1) ++ es.drop (i + (es.drop (i + 1)).length)).drop (es.length - 1 + [zSnD].length) = [] from List.drop_eq_nil_of_le (by rw [List.length_append, hn, hD]; exact Nat.le_refl _), List.append_nil]
  rw [hX] at u2 u3
  have hx := ((Ext.drawn [⟨b, .row 4 es 0⟩] K w _).trans s3).trans u3
  obtain ⟨e, m, m1, m2⟩ := hsh
  exact ⟨_, .rsl b 4 0 (es.length - 1), _, K, rfl, ⟨(), trivial, rfl, wkMem.rfl'⟩, .rsl b 4 0 _ 0 cap (fun _ => by simp) (by omega) ⟨e, m, hx.shape _ _ m1, m2⟩, u2, hx⟩
end Go.Eng.YtkenlcaifhffoaaDoor
end
