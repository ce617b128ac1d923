/- Texts put together: Del, Del2, Ins, Ins2, Ins3, Ins4. -/
import Derived.Deep.RegionLaw
import Derived.Deep.LoopGhost
import Derived.Lib.Walk
import Derived.Lib.SliceRun
import Derived.Lib.SlicesDelete
import Derived.Sort.WalkB12
import Derived.Shelf.Spec.SlicesInsert
import Derived.Test.YtphoefglfbifdaaDoorMK12
import Derived.Laws.IdiomCopy
import Derived.Lib.Overlaps
import Derived.Lib.AppendZerosOnto
import Derived.Shelf.Spec.SlicesInsertGrow
/- slices.Delete of one row among rows: by the kit's walk. -/
section
namespace Go.Eng.YtphoefglfbifdaaDoor
open Go Go.Eng Go.Proofs Go.RowKit Go.Lib
set_option linter.unusedSimpArgs false
set_option maxRecDepth 1000000
set_option linter.unusedVariables false
set_option maxHeartbeats 8000000
theorem del_raw (b off cap i j : Nat) (hj : j = i + 1) (cs : List Value) (w : World) (hH : ∀ t v, cs[t]? = some v → w.cell? ⟨b, off + t, none⟩ = some v ∧ w.frozen? ⟨b, off + t, none⟩ = false) (hone : ∀ v ∈ cs, v.oneCell' = true) (hi : i < cs.length) (hcap : cs.length ≤ cap) :
    Calls Tryd.prog 94 #[.slice (some ⟨b, off, none⟩) cs.length cap, .int .i64 i, .int .i64 j] w fun e w' =>
      e = .returned (.slice (some ⟨b, off, none⟩) (cs.length - 1) cap) ∧ w' = (w.drew.setCells b (off + i) (cs.drop j)).setCells b (off + (cs.length - 1)) [.slice none 0 0] := by
  have mixed : Tryd.prog.follows .mixedOrders = true := by kernel_rfl
  have t30 := Tryd.underlying30
  have a30 := Tryd.isAgg30
  have z30 := Tryd.sizeOf30
  have v30 := Tryd.zeroValue30
  have t3 := Tryd.underlying3
  have v22 := Tryd.zeroValue22
  obtain ⟨i0, z0, hi0, hz0, hce, hpos, hzs, hzz, hL, hone0⟩ := zeroCells_rel (P := Tryd.prog) (K := fun _ _ => False) (w := w) (e := 22) (by kernel_rfl) 0
  have h1 : i0.size = 1 := hce.symm.trans (by kernel_rfl)
  clear hzz hL hone0 hzs hpos hce
  obtain ⟨news, hnews⟩ : ∃ news, news = cs.drop j := ⟨_, rfl⟩
  obtain ⟨n, hn⟩ : ∃ n, n = cs.length := ⟨_, rfl⟩
  have hlen : news.length = (n - j) * 1 := by rw [hnews, List.length_drop, hn, Nat.mul_one]
  have hget : ∀ t u, news[t]? = some u → w.cell? ⟨b, off + (j + t), none⟩ = some u := fun t u hu => (hH (j + t) u (by rw [hnews, List.getElem?_drop] at hu; exact hu)).1
  have hcell : ∀ t, t < n → (w.cell? ⟨b, off + t, none⟩).isSome = true ∧ w.frozen? ⟨b, off + t, none⟩ = false := fun t ht => by
    have := hH t _ (List.getElem?_eq_getElem (by omega))
    exact ⟨by rw [this.1]; rfl, this.2⟩
  obtain ⟨A, hA, hsrc⟩ : ∃ A : Addr, (if cap = j then some (⟨b, off, none⟩ : Addr) else some ⟨b, off + j, none⟩) = some A ∧ Hid (∀ t u, news[t]? = some u → w.drew.cell? (A.add t) = some u) := by
    by_cases h : cap = j
    · refine ⟨⟨b, off, none⟩, by simp [h], fun t u hu => ?_⟩
      have h0 : news.length = 0 := by rw [hlen]; omega
      rw [List.length_eq_zero_iff.1 h0] at hu
      simp at hu
    · refine ⟨⟨b, off + j, none⟩, by simp [h], fun t u hu => ?_⟩
      rw [Addr.add_lit, Nat.add_assoc]
      exact hget t u hu
  have s1 : Hid (news.length = (n - j) * 1) := hlen
  have s2 : Hid (∀ u ∈ news, u.oneCell' = true) := fun u hu => hone u (by rw [hnews] at hu; exact List.mem_of_mem_drop hu)
  have s3 : Hid (∀ t, t < news.length → (w.drew.cell? ⟨b, off + i * 1 + t, none⟩).isSome = true ∧ w.drew.frozen? ⟨b, off + i * 1 + t, none⟩ = false) := fun t ht => by
    rw [show off + i * 1 + t = off + (i + t) by omega]
    exact hcell (i + t) (by omega)
  obtain ⟨W1, hW1⟩ : ∃ W1, W1 = w.drew.setCells b (off + i * 1) news := ⟨_, rfl⟩
  have hW1c : ∀ t, t < n → (W1.cell? ⟨b, off + t, none⟩).isSome = true ∧ W1.frozen? ⟨b, off + t, none⟩ = false := fun t ht => by
    rw [hW1]
    exact ⟨isSome_setCells b news _ _ (fun u hu => by rw [show off + i * 1 + u = off + (i + u) by omega]; exact (hcell (i + u) (by omega)).1) _ (hcell t ht).1, by rw [World.frozen?_setCells]; exact (hcell t ht).2⟩
  have hcl : ∀ ty, (Builtin.clear_ #[30] ty #[.slice (some ⟨b, off + (i + (n - j)), none⟩) (n - (i + (n - j))) (cap - (i + (n - j)))]).run Tryd.prog W1 = .ok (.tuple #[]) (W1.setCells b (off + (i + (n - j))) (List.replicate (n - (i + (n - j))) (.slice none 0 0))) :=
    fun ty => Lib.run_clear_slice W1 _ _ ty _ t30 v22 rfl rfl b _ _ _ (by omega) (fun t ht => by rw [show off + (i + (n - j)) + t = off + (i + (n - j) + t) by omega]; exact (hW1c _ (by omega)).1) (fun t ht => by rw [show off + (i + (n - j)) + t = off + (i + (n - j) + t) by omega]; exact (hW1c _ (by omega)).2)
  have hW : Hid (W1 = w.drew.setCells b (off + i * 1) news) := hW1
  have hic : i ≤ cap := by omega
  have hjc : j ≤ cap := by omega
  have hjn : j ≤ n := by omega
  have hlt : i < j := by omega
  have hJ : Hid (j = i + 1) := hj
  rw [← hn] at hcap ⊢
  rw [← hnews]
  clear hW1 hW1c hget hcell hone hH hnews hlen hn hi hj
  go_enter Tryd.func94, Tryd.ntmps94
  go_wp2_with fail
  go_region_law_o (refine step_append_room rfl (.tmp 22) (.tmp 25) 30 rfl 22 i0 1 t30 hi0 h1 b off i cap (by simp [Act.eval, Act.put]) A (n - j) (cap - j) news (by simp [Act.eval, Act.put]) s1.out hsrc.out s2.out (by omega) s3.out ?_; rw [← hW.out])
  go_wp2
  go_ret
  rw [show i + (n - j) = n - 1 by have := hJ.out; omega, show n - (n - 1) = 1 by omega, hW.out, Nat.mul_one]
  exact ⟨rfl, rfl⟩
end Go.Eng.YtphoefglfbifdaaDoor
end

/- slices.Delete of one row among rows. -/
section
namespace Go.Eng.YtphoefglfbifdaaDoor
open Go Go.Eng Go.Proofs
variable (W : World)
set_option linter.unusedSimpArgs false
set_option maxRecDepth 100000
set_option linter.unusedVariables false
theorem store_set {P : Program} {w w' : World} {b o : Nat} {vs : List Value} (h : (storeCells ⟨b, o, none⟩ vs).run P w = .ok () w') (hc : ∀ j, j < vs.length → (w.cell? ⟨b, o + j, none⟩).isSome = true ∧ w.frozen? ⟨b, o + j, none⟩ = false) (h1 : ∀ v ∈ vs, v.oneCell' = true) : w' = w.setCells b o vs := by
  have := run_storeCells_cells (P := P) b o vs 0 w (fun j hj => (hc j hj).1) (fun j hj => (hc j hj).2) h1
  rw [h] at this
  exact (Result.ok.inj this).2
theorem delR_ok (b i j : Nat) (hj : j = i + 1) (es : List PV) (hc : es.all cellsB = true) (hi : i < es.length) :
    ACalls Tryd.prog W 94 [.rsl b 1 0 es.length, .int .i64 i, .int .i64 j] [⟨b, .row 1 es 0⟩]
      (Gives (fun _ : Unit => .rsl b 1 0 (es.length - 1)) (fun _ => [⟨b, .row 1 (es.take i ++ es.drop j ++ [.nils]) 0⟩]) (fun _ => True)) := by
  refine ⟨⟨_, Tryd.func94, by kernel_rfl, by kernel_rfl⟩, fun K w vs hl hr hm hp => ?_⟩
  obtain ⟨v0, v1, v2, rfl⟩ : ∃ v0 v1 v2, vs = [v0, v1, v2] := by
    match vs, hl with
    | [a, b, c], _ => exact ⟨a, b, c, rfl⟩
  have q0 : VRel K w (.rsl b 1 0 es.length) v0 := hr 0 (by simp)
  have q1 : VRel K w (.int .i64 i) v1 := hr 1 (by simp)
  have q2 : VRel K w (.int .i64 j) v2 := hr 2 (by simp)
  cases q1
  cases q2
  cases q0
  rename_i o cap hsh hcap ho
  obtain rfl : o = 0 := by simpa using ho (.inr rfl)
  have hro : RowOk K w b 1 es 0 := hm.blk ⟨b, .row 1 es 0⟩ List.mem_cons_self
  obtain ⟨cs, ty, g1, g2, g3⟩ := hro.flats
  rw [Nat.mul_one] at g2 g3
  have hfl := flats_length hro.hz
  rw [Nat.mul_one] at hfl
  obtain ⟨vals, hv⟩ : ∃ vals, vals = (List.range es.length).map fun t => cs.getD t undef := ⟨_, rfl⟩
  have hvl : vals.length = es.length := by rw [hv]; simp
  have hva : ∀ t, t < es.length → vals[t]? = some (cs.getD t undef) := fun t ht => by rw [hv, List.getElem?_map, List.getElem?_range ht]; rfl
  have hL : LRel K w (flats es) vals := ⟨by rw [hfl, hvl], fun t ht => by
    rw [hfl] at ht
    rw [List.getD_eq_getElem?_getD (l := vals), hva t ht, Option.getD_some]
    exact g3 t ht⟩
  have hone := one_of_cellsB hL (fun y hy => List.all_eq_true.1 hc y hy)
  have hcell : ∀ t v, vals[t]? = some v → w.cell? ⟨b, 0 + t, none⟩ = some v ∧ w.frozen? ⟨b, 0 + t, none⟩ = false := fun t v htv => by
    have ht : t < es.length := by rw [← hvl]; exact (List.getElem?_eq_some_iff.1 htv).1
    rw [hva t ht] at htv
    rw [Nat.zero_add, Lib.cell_of_heap g1, Lib.frozen_of_heap g1]
    refine ⟨?_, rfl⟩
    rw [← Option.some.inj htv, Array.getD_eq_getD_getElem?, Array.getElem?_eq_getElem (by omega)]; rfl
  have hdel := del_raw b 0 cap i j hj vals w hcell hone (by omega) (by omega)
  rw [hvl] at hdel
  refine hdel.mono ?_
  rintro e w' ⟨rfl, hw'⟩
  subst hj
  have hmd : SatM K [⟨b, .row 1 es 0⟩] w.drew := hm.drawn _
  have hLd : LRel K w.drew (flats (es.drop (i + 1))) (vals.drop (i + 1)) := by
    have h3 : flats es = flats (es.take (i + 1)) ++ flats (es.drop (i + 1)) := by rw [← flats_append, List.take_append_drop]
    have h4 : (flats (es.take (i + 1))).length = i + 1 := by rw [flats_length (fun e he => hro.hz e (List.mem_of_mem_take he)), Nat.mul_one, List.length_take]; omega
    have h5 : (flats (es.drop (i + 1))).length = es.length - (i + 1) := by rw [flats_length (fun e he => hro.hz e (List.mem_of_mem_drop he)), Nat.mul_one, List.length_drop]
    refine ⟨by rw [h5, List.length_drop, hvl], fun t ht => ?_⟩
    rw [h5] at ht
    have h6 := hL.2 (i + 1 + t) (by rw [hfl]; omega)
    rw [h3, List.getD_eq_getElem?_getD, List.getElem?_append_right (by omega), h4, Nat.add_sub_cancel_left] at h6
    rw [List.getD_eq_getElem?_getD, List.getD_eq_getElem?_getD, List.getElem?_drop]
    rw [List.getD_eq_getElem?_getD] at h6
    exact VRel.mono (w := w) (w' := w.drew) (fun _ _ h => ⟨h, rfl⟩) (fun _ _ h => h) h6
  obtain ⟨w1, s1, s2, s3⟩ := over_row (P := Tryd.prog) (ys := es.drop (i + 1)) (vs := vals.drop (i + 1)) (i := i) hmd (.here _ _ _) (by simp; omega) (Nat.zero_le _) (fun y hy => hro.hz y (List.mem_of_mem_drop hy)) hLd (fun v hv => hone v (List.mem_of_mem_drop hv))
  rw [Nat.mul_one] at s1
  have hc0 : ∀ t, t < es.length → (w.cell? ⟨b, t, none⟩).isSome = true ∧ w.frozen? ⟨b, t, none⟩ = false := fun t ht => by
    have := hcell t _ (hva t ht)
    rw [Nat.zero_add] at this
    exact ⟨by rw [this.1]; rfl, this.2⟩
  have e1 := store_set s1 (fun t ht => hc0 (i + t) (by rw [List.length_drop, hvl] at ht; omega)) (fun v hv => hone v (List.mem_of_mem_drop hv))
  obtain ⟨w2, u1, u2, u3⟩ := over_row (P := Tryd.prog) (ys := [.nils]) (vs := [.slice none 0 0]) (i := es.length - 1) s2 (.here _ _ _) (by simp; omega) (Nat.zero_le _) (fun y hy => by rw [List.mem_singleton.1 hy]; rfl) ⟨rfl, fun t ht => by
    obtain rfl : t = 0 := by
      change t < 1 at ht
      omega
    exact .nils⟩ (fun v hv => by rw [List.mem_singleton.1 hv]; rfl)
  rw [Nat.mul_one] at u1
  have e2 := store_set u1 (fun t ht => by
    obtain rfl : t = 0 := by simpa using ht
    rw [e1, World.frozen?_setCells]
    exact ⟨isSome_setCells b (vals.drop (i + 1)) i w.drew (fun q hq => (hc0 (i + q) (by rw [List.length_drop, hvl] at hq; omega)).1) _ (hc0 (es.length - 1 + 0) (by omega)).1, (hc0 (es.length - 1 + 0) (by omega)).2⟩) (fun v hv => by rw [List.mem_singleton.1 hv]; rfl)
  have e3 : w' = w2 := by rw [hw', e2, e1, Nat.zero_add, Nat.zero_add]
  subst e3
  have hX : (es.take i ++ es.drop (i + 1) ++ es.drop (i + (es.drop (i + 1)).length)).take (es.length - 1) ++ [PV.nils] ++ (es.take i ++ es.drop (i + 1) ++ es.drop (i + (es.drop (i + 1)).length)).drop (es.length - 1 + [PV.nils].length) = es.take i ++ es.drop (i + 1) ++ [.nils] := by
    have hn : (es.take i ++ es.drop (i + 1)).length = es.length - 1 := by simp; omega
    have hD : (es.drop (i + (es.drop (i + 1)).length)).length = 1 := by rw [List.length_drop, List.length_drop]; omega
    rw [List.take_left' hn, show (es.take i ++ es.drop (i + 1) ++ es.drop (i + (es.drop (i + 1)).length)).drop (es.length - 1 + [PV.nils].length) = [] from List.drop_eq_nil_of_le (by rw [List.length_append, hn, hD]; exact Nat.le_refl _), List.append_nil]
  rw [hX] at u2 u3
  have hx := ((Ext.drawn [⟨b, .row 1 es 0⟩] K w _).trans s3).trans u3
  obtain ⟨e, m, m1, m2⟩ := hsh
  exact ⟨_, .rsl b 1 0 (es.length - 1), _, K, rfl, ⟨(), trivial, rfl, wkMem.rfl'⟩, .rsl b 1 0 _ 0 cap (fun _ => by simp) (by omega) ⟨e, m, hx.shape _ _ m1, m2⟩, u2, hx⟩
end Go.Eng.YtphoefglfbifdaaDoor
end

/- slices.Insert of rows among rows, in place: by the kit's walk. -/
section
namespace Go.Eng.YtphoefglfbifdaaDoor
open Go Go.Eng Go.Proofs Go.RowKit Go.Lib
set_option linter.unusedSimpArgs false
set_option maxRecDepth 1000000
set_option linter.unusedVariables false
set_option maxHeartbeats 8000000
theorem ins_shift (b off n c i vb voff m vc : Nat) (cs vs : List Value) (w : World) (hi : i < n) (hm : 0 < m) (hroom : n + m ≤ c) (h63 : n + m ≤ 9223372036854775807) (hvb : vb ≠ b) (hcl : cs.length = n) (hvl : vs.length = m)
    (hcs : ∀ j v, cs[j]? = some v → w.cell? ⟨b, off + j, none⟩ = some v) (hsp : ∀ j, j < n + m → (w.cell? ⟨b, off + j, none⟩).isSome = true ∧ w.frozen? ⟨b, off + j, none⟩ = false)
    (hvs : ∀ j v, vs[j]? = some v → w.cell? ⟨vb, voff + j, none⟩ = some v) (h1c : ∀ v ∈ cs, v.oneCell' = true) (h1v : ∀ v ∈ vs, v.oneCell' = true)
    (hov : ∀ lb cb, (callFunc 100 #[.slice (some ⟨vb, voff, none⟩) m vc, .slice (some ⟨b, off + (i + m), none⟩) lb cb]).run Tryd.prog w = .ok (.value (.bool false)) w) :
    Calls Tryd.prog 93 #[.slice (some ⟨b, off, none⟩) n c, .int .i64 i, .slice (some ⟨vb, voff, none⟩) m vc] w fun e w' =>
      e = .returned (.slice (some ⟨b, off, none⟩) (n + m) c) ∧ w' = (w.drew.setCells b (off + (i + m)) (cs.drop i)).setCells b (off + i) vs := by
  have mixed : Tryd.prog.follows .mixedOrders = true := by kernel_rfl
  have t30 := Tryd.underlying30
  have a30 := Tryd.isAgg30
  have z30 := Tryd.sizeOf30
  have v30 := Tryd.zeroValue30
  have t3 := Tryd.underlying3
  have z22 := Tryd.sizeOf22
  obtain ⟨i0, z0, hi0, hz0, hce, hpos, hzs, hzz, hL, hone0⟩ := zeroCells_rel (P := Tryd.prog) (K := fun _ _ => False) (w := w) (e := 22) (by kernel_rfl) 0
  have h1 : i0.size = 1 := hce.symm.trans (by kernel_rfl)
  have hsz : (Tryd.prog.info? 22).map (·.size) = some 1 := by rw [hi0]; simp [h1]
  clear hzz hL hone0 hzs hpos hce
  have q1 : ¬ ((m : Int) = 0) := by omega
  have q2 : ¬ ((i : Int) = (n : Int)) := by omega
  have q3 : IntKind.i64.wrap ((i : Int) + (m : Int)) = (i : Int) + (m : Int) := by rw [IntKind.wrap_i64]; omega
  have q3' : IntKind.i64.wrap ((n : Int) + (m : Int)) = (n : Int) + (m : Int) := by rw [IntKind.wrap_i64]; omega
  have q4 : (0 : Int) ≤ (i : Int) + (m : Int) := by omega
  have q5 : i ≤ n := by omega
  have q6 : ((i : Int) + (m : Int)).toNat = i + m := by omega
  have q7 : ¬ (c = i + m) := by omega
  have q8 : (i : Int) ≤ (n : Int) + (m : Int) := by omega
  have q9 : ¬ (c = i) := by omega
  have hdl : (cs.drop i).length = n - i := by rw [List.length_drop, hcl]
  have hcp1 : ∀ ty dc sc, (Builtin.copy_ #[30, 30] ty #[.slice (some ⟨b, off + (i + m), none⟩) (n + m - (i + m)) dc, .slice (some ⟨b, off + i, none⟩) (n + m - i) sc]).run Tryd.prog w.drew = .ok (goInt (cs.drop i).length) (w.drew.setCells b (off + (i + m)) (cs.drop i)) := fun ty dc sc =>
    run_copy_cells w.drew _ _ ty 22 b (off + (i + m)) (n + m - (i + m)) dc ⟨b, off + i, none⟩ (n + m - i) sc (cs.drop i) t30 hsz (by rw [hdl]; simp only [Nat.min_def]; split <;> omega)
      (fun j v hj => by rw [Addr.add_lit, Nat.add_assoc]; exact hcs (i + j) v (by rwa [List.getElem?_drop] at hj))
      (fun j hj => by rw [Nat.add_assoc]; exact (hsp _ (by omega)).1) (fun j hj => by rw [Nat.add_assoc]; exact (hsp _ (by omega)).2) (fun v hv => h1c v (List.mem_of_mem_drop hv))
  obtain ⟨W1, hW1⟩ : ∃ W1, W1 = w.drew.setCells b (off + (i + m)) (cs.drop i) := ⟨_, rfl⟩
  have hsp1 : ∀ k, k < n + m → (W1.cell? ⟨b, off + k, none⟩).isSome = true ∧ W1.frozen? ⟨b, off + k, none⟩ = false := fun k hk => by
    rw [hW1, World.frozen?_setCells]
    exact ⟨isSome_setCells b _ _ _ (fun j hj => by rw [Nat.add_assoc]; exact (hsp _ (by omega)).1) _ (hsp k hk).1, (hsp k hk).2⟩
  have hcp2 : ∀ (W : World), (∀ x, W.cell? x = W1.cell? x) → (∀ x, W.frozen? x = W1.frozen? x) → ∀ ty dc, (Builtin.copy_ #[30, 30] ty #[.slice (some ⟨b, off + i, none⟩) (n + m - i) dc, .slice (some ⟨vb, voff, none⟩) m vc]).run Tryd.prog W = .ok (goInt vs.length) (W.setCells b (off + i) vs) := fun W hWc hWf ty dc =>
    run_copy_cells W _ _ ty 22 b (off + i) (n + m - i) dc ⟨vb, voff, none⟩ m vc vs t30 hsz (by rw [hvl]; simp only [Nat.min_def]; split <;> omega)
      (fun j v hj => by
        rw [Addr.add_lit, hWc, hW1, World.cell?_setCells_out b _ _ _ _ (fun h _ => absurd h hvb)]
        exact hvs j v hj)
      (fun j hj => by rw [hWc, Nat.add_assoc]; exact (hsp1 _ (by omega)).1) (fun j hj => by rw [hWf, Nat.add_assoc]; exact (hsp1 _ (by omega)).2) h1v
  rw [← hW1] at hcp1
  go_enter Tryd.func93, Tryd.ntmps93
  go_wp2_with (simp only [hov])
  go_region_law_o (refine step_copy_runI rfl _ _ 30 30 rfl _ _ (by simp [Act.eval, Act.put]) (by simp [Act.eval, Act.put]) (hcp1 _ _ _) ?_)
  go_wp2_with (at_builtin; refine wpList_copy_runI _ rfl _ _ 30 30 rfl _ _ rfl rfl (hcp2 _ (fun _ => rfl) (fun _ => rfl) _ _) ?_)
  go_ret
  first | exact ⟨rfl, rfl⟩ | exact ⟨rfl, by rw [hW1]⟩
end Go.Eng.YtphoefglfbifdaaDoor
end

/- slices.Insert of rows among rows, where there is no room: by the kit's walk. -/
section
namespace Go.Eng.YtphoefglfbifdaaDoor
open Go Go.Eng Go.Proofs Go.RowKit Go.Lib
set_option linter.unusedSimpArgs false
set_option maxRecDepth 1000000
set_option linter.unusedVariables false
set_option maxHeartbeats 8000000
theorem ins_grow (b off n c i vb voff m vc : Nat) (cs vs : List Value) (w : World) (hi : i < n) (hm : 0 < m) (hnc : n ≤ c) (hroom : c < n + m) (hbig : (n + m) * 24 ≤ 140737488355328) (hcl : cs.length = n) (hvl : vs.length = m)
    (hcs : ∀ j v, cs[j]? = some v → w.cell? ⟨b, off + j, none⟩ = some v) (hvs : ∀ j v, vs[j]? = some v → w.cell? ⟨vb, voff + j, none⟩ = some v) (h1c : ∀ v ∈ cs, v.oneCell' = true) (h1v : ∀ v ∈ vs, v.oneCell' = true)
    (i0 : TypeInfo) (z0 : Value) (hi0 : Tryd.prog.info? 22 = some i0) (hz0 : i0.zero = some z0) (hzc : z0.cells.size = 1) (hzs : i0.size = 1) (hzb : i0.bytes = 24) :
    Calls Tryd.prog 93 #[.slice (some ⟨b, off, none⟩) n c, .int .i64 i, .slice (some ⟨vb, voff, none⟩) m vc] w fun e w' =>
      e = .returned (.slice (some ⟨w.heap.size, 0, none⟩) (n + m) (grownCap w (n + m) c 22)) ∧
      w' = (((w.alloc (.cells ((cs.take i).toArray ++ Builtin.zeroCells z0.cells (n + m - i) ++ Builtin.zeroCells z0.cells (grownCap w (n + m) c 22 - (n + m))) 22)).drew.setCells w.heap.size i vs).drew).setCells w.heap.size (i + m) (cs.drop i) := by
  have mixed : Tryd.prog.follows .mixedOrders = true := by kernel_rfl
  have t30 := Tryd.underlying30
  have a30 := Tryd.isAgg30
  have z30 := Tryd.sizeOf30
  have v30 := Tryd.zeroValue30
  have t3 := Tryd.underlying3
  have z22 := Tryd.sizeOf22
  have hsz : (Tryd.prog.info? 22).map (·.size) = some 1 := by rw [hi0]; simp [hzs]
  have q1 : ¬ ((m : Int) = 0) := by omega
  have q2 : ¬ ((i : Int) = (n : Int)) := by omega
  have q3 : (c : Int) < (n : Int) + (m : Int) := by omega
  have hbw : b < w.heap.size := block_lt_of_cell (hcs 0 _ (List.getElem?_eq_getElem (by omega)))
  have hvw : vb < w.heap.size := block_lt_of_cell (hvs 0 _ (List.getElem?_eq_getElem (by omega)))
  have hkk : (n : Int) + (m : Int) - (i : Int) = ((n + m - i : Nat) : Int) := by omega
  have hik : i + (n + m - i) = n + m := by omega
  have hold : (Builtin.firstCells i0.size i (.slice (some ⟨b, off, none⟩) i c)).run Tryd.prog w.drew = .ok (cs.take i).toArray w.drew := by
    rw [hzs]
    exact run_firstCells_some w.drew 1 i ⟨b, off, none⟩ i c (cs.take i) (by rw [List.length_take]; omega) (fun j v hj => by
      rw [Addr.add_lit]
      rw [List.getElem?_take] at hj
      split at hj
      · exact hcs j v hj
      · cases hj)
  have hrz : ∀ ty, (Builtin.append_ #[30, 3] ty #[.slice (some ⟨b, off, none⟩) i c, .int .i64 ((n : Int) + (m : Int) - (i : Int))]).run Tryd.prog w =
      .ok (.slice (some ⟨w.heap.size, 0, none⟩) (n + m) (grownCap w (n + m) c 22)) (w.drew.alloc (.cells ((cs.take i).toArray ++ Builtin.zeroCells z0.cells (n + m - i) ++ Builtin.zeroCells z0.cells (grownCap w (n + m) c 22 - (n + m))) 22)) := fun ty => by
    have h := Lib.run_append_grow_zeros w 30 3 ty 22 i0 _ .i64 .i64 t30 t3 hi0 hz0 (some ⟨b, off, none⟩) i c (cs.take i) hold (n + m - i) (by omega) (by omega) (by omega) (by omega) (by rw [hzb]; omega) (by rw [hzb, hik]; exact growslice_fits hroom hbig)
    rw [hik] at h
    rw [hkk]
    exact h
  obtain ⟨G, hG⟩ : ∃ G, G = grownCap w (n + m) c 22 := ⟨_, rfl⟩
  obtain ⟨ROW, hROW⟩ : ∃ ROW : Array Value, ROW = (cs.take i).toArray ++ Builtin.zeroCells z0.cells (n + m - i) ++ Builtin.zeroCells z0.cells (G - (n + m)) := ⟨_, rfl⟩
  rw [← hG] at hrz ⊢
  rw [← hROW] at hrz ⊢
  have hRl : n + m ≤ ROW.size := by
    rw [hROW]
    simp [Builtin.zeroCells, hzc]
    omega
  obtain ⟨W1, hW1⟩ : ∃ W1, W1 = w.drew.alloc (.cells ROW 22) := ⟨_, rfl⟩
  rw [← hW1] at hrz
  have hN : ∀ j, j < n + m → (W1.cell? ⟨w.heap.size, j, none⟩).isSome = true := fun j hj => by
    rw [hW1, World.cell?_alloc_at (w := w.drew) ROW _ w.heap.size j rfl, Array.getElem?_eq_getElem (by omega)]; rfl
  have hNf : ∀ j, W1.frozen? ⟨w.heap.size, j, none⟩ = false := fun j => by rw [hW1]; exact World.frozen?_alloc_at (w := w.drew) ROW _ w.heap.size j rfl
  have hOb : ∀ j v, w.cell? ⟨b, j, none⟩ = some v → W1.cell? ⟨b, j, none⟩ = some v := fun j v h => by rw [hW1, World.cell?_alloc_past (w := w.drew) _ b j hbw]; exact h
  have hOv : ∀ j v, w.cell? ⟨vb, j, none⟩ = some v → W1.cell? ⟨vb, j, none⟩ = some v := fun j v h => by rw [hW1, World.cell?_alloc_past (w := w.drew) _ vb j hvw]; exact h
  have hcpA : ∀ (W : World), (∀ x, W.cell? x = W1.cell? x) → (∀ x, W.frozen? x = W1.frozen? x) → ∀ ty dc, (Builtin.copy_ #[30, 30] ty #[.slice (some ⟨w.heap.size, i, none⟩) (n + m - i) dc, .slice (some ⟨vb, voff, none⟩) m vc]).run Tryd.prog W = .ok (goInt vs.length) (W.setCells w.heap.size i vs) := fun W hWc hWf ty dc =>
    run_copy_cells W _ _ ty 22 w.heap.size i (n + m - i) dc ⟨vb, voff, none⟩ m vc vs t30 hsz (by rw [hvl]; simp only [Nat.min_def]; split <;> omega)
      (fun j v hj => by rw [Addr.add_lit, hWc]; exact hOv _ v (hvs j v hj))
      (fun j hj => by rw [hWc]; exact hN _ (by omega)) (fun j hj => by rw [hWf]; exact hNf _) h1v
  have hGn : n + m ≤ G := by rw [hG]; exact grownCap_ge w _ _ _
  have hG63 : G ≤ 9223372036854775807 := by
    have := grownCap_le_maxLen w (n + m) c 22 (by unfold maxLen; omega)
    rw [← hG] at this
    unfold maxLen at this
    omega
  have q4 : ¬ (G = i) := by omega
  have q5 : ¬ (G = i + m) := by omega
  have q6 : ¬ (c = i) := by omega
  have hbN : b ≠ w.heap.size := by omega
  have hdl : (cs.drop i).length = n - i := by rw [List.length_drop, hcl]
  have hcpB : ∀ (W : World), (∀ x, W.cell? x = (W1.setCells w.heap.size i vs).cell? x) → (∀ x, W.frozen? x = (W1.setCells w.heap.size i vs).frozen? x) → ∀ ty dc sc, (Builtin.copy_ #[30, 30] ty #[.slice (some ⟨w.heap.size, i + m, none⟩) (n + m - (i + m)) dc, .slice (some ⟨b, off + i, none⟩) (n - i) sc]).run Tryd.prog W = .ok (goInt (cs.drop i).length) (W.setCells w.heap.size (i + m) (cs.drop i)) := fun W hWc hWf ty dc sc =>
    run_copy_cells W _ _ ty 22 w.heap.size (i + m) (n + m - (i + m)) dc ⟨b, off + i, none⟩ (n - i) sc (cs.drop i) t30 hsz (by rw [hdl]; simp only [Nat.min_def]; split <;> omega)
      (fun j v hj => by
        rw [Addr.add_lit, hWc, World.cell?_setCells_out _ _ _ _ _ (fun h _ => absurd h hbN), Nat.add_assoc]
        exact hOb _ v (hcs (i + j) v (by rwa [List.getElem?_drop] at hj)))
      (fun j hj => by rw [hWc]; exact isSome_setCells _ _ _ _ (fun t ht => hN _ (by omega)) _ (hN _ (by omega)))
      (fun j hj => by rw [hWf, World.frozen?_setCells]; exact hNf _) (fun v hv => h1c v (List.mem_of_mem_drop hv))
  subst hW1
  have hE1 : ∀ x, ((w.alloc (.cells ROW 22)).drew).cell? x = (w.drew.alloc (.cells ROW 22)).cell? x := fun x => rfl
  have hE2 : ∀ x, ((w.alloc (.cells ROW 22)).drew).frozen? x = (w.drew.alloc (.cells ROW 22)).frozen? x := fun x => rfl
  have hF1 : ∀ x, (((w.alloc (.cells ROW 22)).drew.setCells w.heap.size i vs).drew).cell? x = ((w.drew.alloc (.cells ROW 22)).setCells w.heap.size i vs).cell? x := fun x => rfl
  have hF2 : ∀ x, (((w.alloc (.cells ROW 22)).drew.setCells w.heap.size i vs).drew).frozen? x = ((w.drew.alloc (.cells ROW 22)).setCells w.heap.size i vs).frozen? x := fun x => rfl
  have q7 : IntKind.i64.wrap ((i : Int) + (m : Int)) = (i : Int) + (m : Int) := by rw [IntKind.wrap_i64]; omega
  have q8 : (0 : Int) ≤ (i : Int) + (m : Int) := by omega
  have q9 : i ≤ n := by omega
  have q10 : ((i : Int) + (m : Int)).toNat = i + m := by omega
  have q11 : (i : Int) ≤ (n : Int) := by omega
  clear hkk hik hold hROW hG hRl
  go_enter Tryd.func93, Tryd.ntmps93
  go_wp2_with (first
    | (at_builtin; refine Lib.wpList_append_run _ rfl _ _ _ _ rfl _ _ rfl rfl _ _ (hrz _) ?_)
    | (at_builtin; refine wpList_copy_runI _ rfl _ _ 30 30 rfl _ _ rfl rfl (hcpA _ hE1 hE2 _ _) ?_)
    | (at_builtin; refine wpList_copy_runI _ rfl _ _ 30 30 rfl _ _ rfl rfl (hcpB _ (fun _ => rfl) (fun _ => rfl) _ _ _) ?_))
  go_region_law_o (refine step_copy_runI rfl _ _ 30 30 rfl (.slice (some ⟨w.heap.size, i + m, none⟩) (n + m - (i + m)) (G - (i + m))) (.slice (some ⟨b, off + i, none⟩) (n - i) (c - i)) (by simp [Act.eval, Act.put]) (by simp [Act.eval, Act.put]) (hcpB _ hF1 hF2 3 (G - (i + m)) (c - i)) ?_)
  go_wp2
  go_ret
  exact ⟨rfl, rfl⟩
end Go.Eng.YtphoefglfbifdaaDoor
end

/- slices.Insert of one row among rows. -/
section
namespace Go.Eng.YtphoefglfbifdaaDoor
open Go Go.Eng Go.Proofs
variable (W : World)
set_option linter.unusedSimpArgs false
set_option maxRecDepth 100000
set_option linter.unusedVariables false
theorem row_cell {K : Kn} {w : World} {b : Nat} {es : List PV} (hro : RowOk K w b 1 es 0) (hc : es.all cellsB = true) : ∃ vals : List Value, vals.length = es.length ∧ LRel K w (flats es) vals ∧ (∀ v ∈ vals, v.oneCell' = true) ∧ (∀ t v, vals[t]? = some v → w.cell? ⟨b, 0 + t, none⟩ = some v ∧ w.frozen? ⟨b, 0 + t, none⟩ = false) := by
  obtain ⟨cs, ty, g1, g2, g3⟩ := hro.flats
  rw [Nat.mul_one] at g2 g3
  have hfl := flats_length hro.hz
  rw [Nat.mul_one] at hfl
  obtain ⟨vals, hv⟩ : ∃ vals, vals = (List.range es.length).map fun t => cs.getD t undef := ⟨_, rfl⟩
  have hvl : vals.length = es.length := by rw [hv]; simp
  have hva : ∀ t, t < es.length → vals[t]? = some (cs.getD t undef) := fun t ht => by rw [hv, List.getElem?_map, List.getElem?_range ht]; rfl
  have hL : LRel K w (flats es) vals := ⟨by rw [hfl, hvl], fun t ht => by
    rw [hfl] at ht
    rw [List.getD_eq_getElem?_getD (l := vals), hva t ht, Option.getD_some]
    exact g3 t ht⟩
  refine ⟨vals, hvl, hL, one_of_cellsB hL (fun y hy => List.all_eq_true.1 hc y hy), fun t v htv => ?_⟩
  have ht : t < es.length := by rw [← hvl]; exact (List.getElem?_eq_some_iff.1 htv).1
  rw [hva t ht] at htv
  rw [Nat.zero_add, Lib.cell_of_heap g1, Lib.frozen_of_heap g1]
  refine ⟨?_, rfl⟩
  rw [← Option.some.inj htv, Array.getD_eq_getD_getElem?, Array.getElem?_eq_getElem (by omega)]; rfl
theorem LRel.dropE {K : Kn} {w : World} {es : List PV} {vals : List Value} (hz : ∀ e ∈ es, e.flat.length = 1) (hL : LRel K w (flats es) vals) (j : Nat) (hj : j ≤ es.length) : LRel K w (flats (es.drop j)) (vals.drop j) := by
  have hfl := flats_length hz
  rw [Nat.mul_one] at hfl
  have h3 : flats es = flats (es.take j) ++ flats (es.drop j) := by rw [← flats_append, List.take_append_drop]
  have h4 : (flats (es.take j)).length = j := by rw [flats_length (fun e he => hz e (List.mem_of_mem_take he)), Nat.mul_one, List.length_take]; omega
  have h5 : (flats (es.drop j)).length = es.length - j := by rw [flats_length (fun e he => hz e (List.mem_of_mem_drop he)), Nat.mul_one, List.length_drop]
  have hvl : vals.length = es.length := by rw [← hL.1, hfl]
  refine ⟨by rw [h5, List.length_drop, hvl], fun t ht => ?_⟩
  rw [h5] at ht
  have h6 := hL.2 (j + t) (by rw [hfl]; omega)
  rw [h3, List.getD_eq_getElem?_getD, List.getElem?_append_right (by omega), h4, Nat.add_sub_cancel_left] at h6
  rw [List.getD_eq_getElem?_getD, List.getD_eq_getElem?_getD, List.getElem?_drop]
  rw [List.getD_eq_getElem?_getD] at h6
  exact h6
theorem LRel.drew {K : Kn} {w : World} {ps : List PV} {vs : List Value} (h : LRel K w ps vs) : LRel K w.drew ps vs := ⟨h.1, fun t ht => VRel.mono (w := w) (w' := w.drew) (fun _ _ h => ⟨h, rfl⟩) (fun _ _ h => h) (h.2 t ht)⟩
/-- A row of which one cell more is known of. -/
theorem satM_dead {K : Kn} {w : World} {b : Nat} {es : List PV} {τ : Mem} (hm : SatM K (⟨b, .row 1 es 0⟩ :: τ) w) {e m : Nat} (hs : w.shape? b = some (e, m)) (hlt : es.length + 1 ≤ m) : SatM K (⟨b, .row 1 (es ++ [.dead]) 0⟩ :: τ) w := by
  refine ⟨hm.kin, hm.nodup, fun k hk => ?_⟩
  rcases List.mem_cons.1 hk with rfl | hk
  · obtain ⟨h1, h2, h3, cs, ty, h4, h5, h6⟩ : RowOk K w b 1 es 0 := hm.blk ⟨b, .row 1 es 0⟩ List.mem_cons_self
    have hcs : m = cs.size := by
      have : w.shape? b = some (ty, cs.size) := by simp [World.shape?, h4]
      rw [hs] at this
      exact (Prod.mk.inj (Option.some.inj this)).2
    refine ⟨Nat.zero_le _, h2, fun e he => ?_, cs, ty, h4, by rw [List.length_append]; simp; omega, fun i j hi hj => ?_⟩
    · rcases List.mem_append.1 he with he | he
      · exact h3 e he
      · rw [List.mem_singleton.1 he]; rfl
    · by_cases hi' : i < es.length
      · rw [show (es ++ [PV.dead]).getD i .dead = es.getD i .dead by rw [List.getD_eq_getElem?_getD, List.getElem?_append_left hi', ← List.getD_eq_getElem?_getD]]
        exact h6 i j hi' hj
      · have : i = es.length := by rw [List.length_append, List.length_singleton] at hi; omega
        subst this
        obtain rfl : j = 0 := by omega
        rw [show (es ++ [PV.dead]).getD es.length .dead = .dead by rw [List.getD_eq_getElem?_getD, List.getElem?_append_right (Nat.le_refl _), Nat.sub_self]; rfl]
        exact .dead _
  · exact hm.blk k (List.mem_cons_of_mem _ hk)
theorem ins_list (es : List PV) (x : PV) (j : Nat) (hj : j < es.length) (ext : List PV) (he : ext.length = es.length + 1) (ht : ext.take j = es.take j) :
    (ext.take (j + 1) ++ es.drop j ++ ext.drop (j + 1 + (es.drop j).length)).take j ++ [x] ++ (ext.take (j + 1) ++ es.drop j ++ ext.drop (j + 1 + (es.drop j).length)).drop (j + [x].length) = es.take j ++ [x] ++ es.drop j := by
  have h1 : ext.drop (j + 1 + (es.drop j).length) = [] := List.drop_eq_nil_of_le (by rw [List.length_drop]; omega)
  have h2 : (ext.take (j + 1)).length = j + 1 := by rw [List.length_take]; omega
  rw [h1, List.append_nil, List.take_append_of_le_length (by omega), List.take_take, Nat.min_eq_left (by omega), ht, show j + [x].length = j + 1 from rfl, List.drop_left' h2]
theorem extSrc {σ' τ : Mem} {K K' : Kn} {w w' : World} {b : Nat} {c c' : Cont} (h : Ext (⟨b, c⟩ :: τ) K w σ' K' w') : Ext (⟨b, c'⟩ :: τ) K w σ' K' w' := by
  refine ⟨h.os, h.tape, h.output, h.size, h.shape, fun b0 hb hn => h.keep b0 hb fun k hk => ?_, h.kn, fun k hk => ?_, fun b0 o hb => ?_⟩
  · rcases List.mem_cons.1 hk with rfl | hk
    · exact hn ⟨b, c'⟩ List.mem_cons_self
    · exact hn k (List.mem_cons_of_mem _ hk)
  · rcases h.own k hk with ⟨k0, h0, e⟩ | h0
    · rcases List.mem_cons.1 h0 with rfl | h0
      · exact .inl ⟨⟨b, c'⟩, List.mem_cons_self, e⟩
      · exact .inl ⟨k0, List.mem_cons_of_mem _ h0, e⟩
    · exact .inr h0
  · rcases h.fresh b0 o hb with h0 | ⟨k0, h0, e⟩ | h0
    · exact .inl h0
    · rcases List.mem_cons.1 h0 with rfl | h0
      · exact .inr (.inl ⟨⟨b, c'⟩, List.mem_cons_self, e⟩)
      · exact .inr (.inl ⟨k0, List.mem_cons_of_mem _ h0, e⟩)
    · exact .inr (.inr h0)
theorem insS_ok (b j bv : Nat) (es : List PV) (x : PV) (hc : es.all cellsB = true) (hx : cellsB x = true) (hj : j < es.length) (hb : (es.length + 1) * 24 ≤ 140737488355328) :
    ACalls Tryd.prog W 93 [.rsl b 1 0 es.length, .int .i64 j, .rsl bv 1 0 1] [⟨b, .row 1 es 0⟩, ⟨bv, .row 1 [x] 0⟩]
      (Gives (fun b' : Nat => .rsl b' 1 0 (es.length + 1)) (fun b' => [⟨b', .row 1 (es.take j ++ [x] ++ es.drop j) 0⟩]) (fun _ => True)) := by
  refine ⟨⟨_, Tryd.func93, by kernel_rfl, by kernel_rfl⟩, fun K w vs hl hr hm hp => ?_⟩
  obtain ⟨v0, v1, v2, rfl⟩ : ∃ v0 v1 v2, vs = [v0, v1, v2] := by
    match vs, hl with
    | [a, b, c], _ => exact ⟨a, b, c, rfl⟩
  have q0 : VRel K w (.rsl b 1 0 es.length) v0 := hr 0 (by simp)
  have q1 : VRel K w (.int .i64 j) v1 := hr 1 (by simp)
  have q2 : VRel K w (.rsl bv 1 0 1) v2 := hr 2 (by simp)
  cases q1
  cases q0
  rename_i o cap hsh hcap ho
  obtain rfl : o = 0 := by simpa using ho (.inr rfl)
  cases q2
  rename_i ov capv hshv hcapv hov
  obtain rfl : ov = 0 := by simpa using hov (.inr rfl)
  have hro : RowOk K w b 1 es 0 := hm.blk ⟨b, .row 1 es 0⟩ List.mem_cons_self
  have hrv : RowOk K w bv 1 [x] 0 := hm.blk ⟨bv, .row 1 [x] 0⟩ (List.mem_cons_of_mem _ List.mem_cons_self)
  have hne : bv ≠ b := by
    have := hm.nodup
    simp at this
    exact fun h => this h.symm
  obtain ⟨vals, l1, l2, l3, l4⟩ := row_cell hro hc
  obtain ⟨nv, k1, k2, k3, k4⟩ := row_cell hrv (by simpa using hx)
  obtain ⟨e, m, m1, m2⟩ := hsh
  obtain ⟨ev, mv, mv1, mv2⟩ := hshv
  obtain ⟨cs, ty, g1, g2, g3⟩ := hro.flats
  obtain ⟨csv, tyv, gv1, gv2, gv3⟩ := hrv.flats
  have hcs : m = cs.size := by
    have : w.shape? b = some (ty, cs.size) := by simp [World.shape?, g1]
    rw [m1] at this
    exact (Prod.mk.inj (Option.some.inj this)).2
  by_cases hroom : es.length + 1 ≤ cap
  · have hmD := satM_dead hm m1 (by omega)
    have hsp : ∀ t, t < es.length + 1 → (w.cell? ⟨b, 0 + t, none⟩).isSome = true ∧ w.frozen? ⟨b, 0 + t, none⟩ = false := fun t ht => by
      rw [Lib.cell_of_heap g1, Lib.frozen_of_heap g1, Array.getElem?_eq_getElem (by omega)]
      exact ⟨rfl, rfl⟩
    have hov2 : ∀ lb cb, (callFunc 100 #[.slice (some ⟨bv, 0, none⟩) 1 capv, .slice (some ⟨b, 0 + (j + 1), none⟩) lb cb]).run Tryd.prog w = .ok (.value (.bool false)) w := fun lb cb => by
      rw [run_callFunc_extern Tryd.func100 (by kernel_rfl) (by kernel_rfl) (by kernel_rfl) (e := Extern.SlicesOverlaps.overlaps #[30, 30] #[4]) (by kernel_rfl),
        Lib.run_overlaps_apart w 30 4 22 Tryd.underlying30 1 Tryd.sizeOf22 ⟨bv, 0, none⟩ ⟨b, 0 + (j + 1), none⟩ 1 capv lb cb hne ev e mv m mv1 m1 (by omega) (Lib.frozen_of_heap gv1 0) (Lib.frozen_of_heap gv1 mv)]
      rfl
    refine (ins_shift b 0 es.length cap j bv 0 1 capv vals nv w hj (by omega) hroom (by omega) hne l1 k1 (fun t v h => (l4 t v h).1) hsp (fun t v h => (k4 t v h).1) l3 k3 hov2).mono ?_
    rintro e' w' ⟨rfl, hw'⟩
    have hmd : SatM K _ w.drew := hmD.drawn _
    obtain ⟨w1, s1, s2, s3⟩ := over_row (P := Tryd.prog) (ys := es.drop j) (vs := vals.drop j) (i := j + 1) hmd (.here _ _ _) (by simp; omega) (Nat.zero_le _) (fun y hy => hro.hz y (List.mem_of_mem_drop hy)) (LRel.drew (LRel.dropE hro.hz l2 j (by omega))) (fun v hv => l3 v (List.mem_of_mem_drop hv))
    rw [Nat.mul_one] at s1
    have e1 := store_set s1 (fun t ht => by have := hsp (j + 1 + t) (by rw [List.length_drop, l1] at ht; omega); rwa [Nat.zero_add] at this) (fun v hv => l3 v (List.mem_of_mem_drop hv))
    have hL1 : LRel K w1 (flats [x]) nv := ⟨k2.1, fun t ht => VRel.mono (fun b o h => s3.kn b o h) s3.shape ((LRel.drew k2).2 t ht)⟩
    obtain ⟨w2, u1, u2, u3⟩ := over_row (P := Tryd.prog) (ys := [x]) (vs := nv) (i := j) s2 (.here _ _ _) (by simp; omega) (Nat.zero_le _) (fun y hy => hrv.hz y hy) hL1 k3
    rw [Nat.mul_one] at u1
    have e2 := store_set u1 (fun t ht => by
      rw [e1, World.frozen?_setCells]
      have hq : j + t < es.length + 1 := by rw [k1] at ht; simp at ht; omega
      have h9 := hsp (j + t) hq
      rw [Nat.zero_add] at h9
      exact ⟨isSome_setCells b (vals.drop j) (j + 1) w.drew (fun q hq => by have := hsp (j + 1 + q) (by rw [List.length_drop, l1] at hq; omega); rw [Nat.zero_add] at this; exact this.1) _ h9.1, h9.2⟩) k3
    have e3 : w' = w2 := by rw [hw', e2, e1, Nat.zero_add, Nat.zero_add]
    subst e3
    rw [ins_list es x j hj (es ++ [.dead]) (by simp) (List.take_append_of_le_length (by omega))] at u2 u3
    have hx := ((Ext.drawn [⟨b, .row 1 (es ++ [.dead]) 0⟩, ⟨bv, .row 1 [x] 0⟩] K w _).trans s3).trans u3
    exact ⟨_, .rsl b 1 0 (es.length + 1), _, K, rfl, ⟨b, trivial, rfl, ⟨[⟨bv, .row 1 [x] 0⟩], .refl _⟩⟩, .rsl b 1 0 _ 0 cap (fun _ => by simp) hroom ⟨e, m, hx.shape _ _ m1, m2⟩, u2, extSrc hx⟩
  · obtain ⟨i0, z0, hi0, hz0, hce, hpos, hzs, hzz, hL, hone0⟩ := zeroCells_rel (P := Tryd.prog) (K := K) (w := w) (e := 22) (by kernel_rfl) 0
    have h1 : i0.size = 1 := hce.symm.trans (by kernel_rfl)
    have h24 : i0.bytes = 24 := by
      have : Tryd.prog.bytesOf 22 = i0.bytes := by simp [Program.bytesOf, hi0]
      exact this.symm.trans (by kernel_rfl)
    refine (ins_grow b 0 es.length cap j bv 0 1 capv vals nv w hj (by omega) hcap (by omega) hb l1 k1 (fun t v h => (l4 t v h).1) (fun t v h => (k4 t v h).1) l3 k3 i0 z0 hi0 hz0 (by rw [hzs, h1]) h1 h24).mono ?_
    rintro e' w' ⟨rfl, hw'⟩
    have hGn : es.length + 1 ≤ grownCap w (es.length + 1) cap 22 := grownCap_ge w _ _ _
    generalize grownCap w (es.length + 1) cap 22 = G at *
    obtain ⟨ROW, hROW⟩ : ∃ ROW : Array Value, ROW = (vals.take j).toArray ++ Builtin.zeroCells z0.cells (es.length + 1 - j) ++ Builtin.zeroCells z0.cells (G - (es.length + 1)) := ⟨_, rfl⟩
    rw [← hROW] at hw'
    have hRs : ROW.size = G := by
      rw [hROW]
      simp [Builtin.zeroCells, hzs, h1, l1]
      omega
    have hRg : ∀ t, t < j → ROW.getD t undef = vals.getD t undef := fun t ht => by
      rw [hROW, Array.getD_eq_getD_getElem?, Array.append_assoc, Array.getElem?_append_left (by simp; omega), List.getD_eq_getElem?_getD]
      simp [ht]
    obtain ⟨ext, hext⟩ : ∃ ext : List PV, ext = es.take j ++ List.replicate (es.length + 1 - j) .dead := ⟨_, rfl⟩
    have hel : ext.length = es.length + 1 := by rw [hext]; simp; omega
    have hez : ∀ e ∈ ext, e.flat.length = 1 := fun e he => by
      rw [hext] at he
      rcases List.mem_append.1 he with he | he
      · exact hro.hz e (List.mem_of_mem_take he)
      · rw [List.eq_of_mem_replicate he]; rfl
    have hfd : ∀ k : Nat, flats (List.replicate k PV.dead) = List.replicate k .dead := fun k => by
      induction k with
      | zero => rfl
      | succ k ih => rw [List.replicate_succ, show flats (PV.dead :: List.replicate k .dead) = [PV.dead] ++ flats (List.replicate k .dead) from rfl, ih]; rfl
    have hft : (flats (es.take j)).length = j := by rw [flats_length (fun e he => hro.hz e (List.mem_of_mem_take he)), Nat.mul_one, List.length_take]; omega
    have hn0 := new_row hm 22 1 ext 0 (Nat.zero_le _) ROW hez (by omega) (fun t ht => by
      rw [hext, flats_append, hfd, List.getD_eq_getElem?_getD]
      by_cases htj : t < j
      · rw [List.getElem?_append_left (by omega), hRg t htj]
        have h3 : flats es = flats (es.take j) ++ flats (es.drop j) := by rw [← flats_append, List.take_append_drop]
        have h4 := l2.2 t (by rw [h3, List.length_append]; omega)
        rw [h3, List.getD_eq_getElem?_getD, List.getElem?_append_left (by omega)] at h4
        exact h4
      · rw [List.getElem?_append_right (by omega), List.getElem?_replicate]
        split
        · exact .dead _
        · exact .dead _)
    obtain ⟨w0, hw0⟩ : ∃ w0, w0 = w.alloc (.cells ROW 22) := ⟨_, rfl⟩
    have hx0 : Ext [⟨b, .row 1 es 0⟩, ⟨bv, .row 1 [x] 0⟩] K w _ K w0 := hw0 ▸ ext_alloc hm (.cells ROW 22) (.row 1 ext 0)
    have hsh0 : w0.shape? w.heap.size = some (22, ROW.size) := hw0 ▸ shape_new _ _
    have hb0 : w0.heap[w.heap.size]? = some (.cells ROW 22 (0, 0)) := hw0 ▸ heap_alloc_new w _
    rw [← hw0] at hn0 hw'
    have hcell0 : ∀ t, t < es.length + 1 → (w0.drew.cell? ⟨w.heap.size, t, none⟩).isSome = true ∧ w0.drew.frozen? ⟨w.heap.size, t, none⟩ = false := fun t ht => by
      have hb1 : w0.drew.heap[w.heap.size]? = some (.cells ROW 22 (0, 0)) := hb0
      rw [Lib.cell_of_heap hb1, Lib.frozen_of_heap hb1, Array.getElem?_eq_getElem (by omega)]
      exact ⟨rfl, rfl⟩
    have hnd : SatM K _ w0.drew := hn0.drawn _
    have hxd := hx0.trans (Ext.drawn _ K w0 (w0.drew).drawn)
    have hL1 : LRel K w0.drew (flats [x]) nv := ⟨k2.1, fun t ht => VRel.mono (fun b o h => hxd.kn b o h) hxd.shape (k2.2 t ht)⟩
    obtain ⟨w1, s1, s2, s3⟩ := over_row (P := Tryd.prog) (ys := [x]) (vs := nv) (i := j) hnd (.here _ _ _) (by simp; omega) (Nat.zero_le _) (fun y hy => hrv.hz y hy) hL1 k3
    rw [Nat.mul_one] at s1
    have e1 := store_set s1 (fun t ht => hcell0 (j + t) (by rw [k1] at ht; simp at ht; omega)) k3
    have hnd1 : SatM K _ w1.drew := s2.drawn _
    have hxe := (hxd.trans s3).trans (Ext.drawn _ K w1 (w1.drew).drawn)
    have hL2 : LRel K w1.drew (flats (es.drop j)) (vals.drop j) := ⟨(LRel.dropE hro.hz l2 j (by omega)).1, fun t ht => VRel.mono (fun b o h => hxe.kn b o h) hxe.shape ((LRel.dropE hro.hz l2 j (by omega)).2 t ht)⟩
    obtain ⟨w2, u1, u2, u3⟩ := over_row (P := Tryd.prog) (ys := es.drop j) (vs := vals.drop j) (i := j + 1) hnd1 (.here _ _ _) (by simp [hel]; omega) (Nat.zero_le _) (fun y hy => hro.hz y (List.mem_of_mem_drop hy)) hL2 (fun v hv => l3 v (List.mem_of_mem_drop hv))
    rw [Nat.mul_one] at u1
    have e2 := store_set u1 (fun t ht => by
      have hq : j + 1 + t < es.length + 1 := by rw [List.length_drop, l1] at ht; omega
      have h9 := hcell0 (j + 1 + t) hq
      show (w1.cell? _).isSome = true ∧ w1.frozen? _ = false
      rw [e1, World.frozen?_setCells]
      exact ⟨isSome_setCells w.heap.size nv j w0.drew (fun q hq => (hcell0 (j + q) (by rw [k1] at hq; simp at hq; omega)).1) _ h9.1, h9.2⟩) (fun v hv => l3 v (List.mem_of_mem_drop hv))
    have e3 : w' = w2 := by rw [hw', e2, e1]
    subst e3
    have hrow : (ext.take j ++ [x] ++ ext.drop (j + [x].length)).take (j + 1) ++ es.drop j ++ (ext.take j ++ [x] ++ ext.drop (j + [x].length)).drop (j + 1 + (es.drop j).length) = es.take j ++ [x] ++ es.drop j := by
      have h2 : ext.take j = es.take j := by rw [hext, List.take_append_of_le_length (by simp; omega), List.take_take, Nat.min_self]
      have h3 : (es.take j ++ [x]).length = j + 1 := by simp; omega
      rw [h2, List.take_left' h3, show (es.take j ++ [x] ++ ext.drop (j + [x].length)).drop (j + 1 + (es.drop j).length) = [] from List.drop_eq_nil_of_le (by simp [hel]; omega), List.append_nil]
    rw [hrow] at u2 u3
    have hx := hxe.trans u3
    have hy := (((Ext.drawn (⟨w.heap.size, .row 1 ext 0⟩ :: [⟨b, .row 1 es 0⟩, ⟨bv, .row 1 [x] 0⟩]) K w0 (w0.drew).drawn).trans s3).trans (Ext.drawn _ K w1 (w1.drew).drawn)).trans u3
    exact ⟨_, .rsl w.heap.size 1 0 (es.length + 1), _, K, rfl, ⟨w.heap.size, trivial, rfl, ⟨_, .refl _⟩⟩, .rsl w.heap.size 1 0 _ 0 G (fun _ => by simp) hGn ⟨_, _, hy.shape _ _ hsh0, by omega⟩, u2, hx⟩
end Go.Eng.YtphoefglfbifdaaDoor
end

/- slices.Insert at the end; slices.Delete, whose row ends with the slice. -/
section
namespace Go.Eng.YtphoefglfbifdaaDoor
open Go Go.Eng Go.Proofs
variable (W : World)
set_option linter.unusedSimpArgs false
set_option maxRecDepth 100000
set_option linter.unusedVariables false
set_option maxHeartbeats 8000000
theorem satM_cut {K : Kn} {w : World} {b : Nat} {es es' : List PV} {τ : Mem} (hm : SatM K (⟨b, .row 1 (es ++ es') 0⟩ :: τ) w) : SatM K (⟨b, .row 1 es 0⟩ :: τ) w := by
  refine ⟨hm.kin, hm.nodup, fun k hk => ?_⟩
  rcases List.mem_cons.1 hk with rfl | hk
  · obtain ⟨h1, h2, h3, cs, ty, h4, h5, h6⟩ : RowOk K w b 1 (es ++ es') 0 := hm.blk ⟨b, .row 1 (es ++ es') 0⟩ List.mem_cons_self
    refine ⟨Nat.zero_le _, h2, fun e he => h3 e (List.mem_append_left _ he), cs, ty, h4, by rw [List.length_append] at h5; omega, fun i j hi hj => ?_⟩
    have := h6 i j (by rw [List.length_append]; omega) hj
    rw [show (es ++ es').getD i .dead = es.getD i .dead by rw [List.getD_eq_getElem?_getD, List.getElem?_append_left hi, ← List.getD_eq_getElem?_getD]] at this
    exact this
  · exact hm.blk k (List.mem_cons_of_mem _ hk)
/-- What a call says of a row, of less of it. -/
theorem ACalls.cut {P : Program} {f : FuncId} {args : List PV} {σ : Mem} {b : Nat} {es es' : List PV} {v : PV} (h : ACalls P W f args σ (Gives (fun _ : Unit => v) (fun _ => [⟨b, .row 1 (es ++ es') 0⟩]) (fun _ => True))) : ACalls P W f args σ (Gives (fun _ : Unit => v) (fun _ => [⟨b, .row 1 es 0⟩]) (fun _ => True)) := by
  refine ⟨h.body, fun K w vs hl hr hm hp => (h.run K w vs hl hr hm hp).mono ?_⟩
  rintro e w' ⟨v', pv, σ', K', h2, ⟨_, -, rfl, q, hq⟩, h4, h5, h6⟩
  refine ⟨v', _, ⟨b, .row 1 es 0⟩ :: q, K', h2, ⟨(), trivial, rfl, q, .refl _⟩, h4, satM_cut (h5.perm hq), ?_⟩
  have hy := h6.perm (.refl _) hq
  refine ⟨hy.os, hy.tape, hy.output, hy.size, hy.shape, hy.keep, hy.kn, fun k hk => ?_, hy.fresh⟩
  rcases List.mem_cons.1 hk with rfl | hk
  · exact hy.own ⟨b, .row 1 (es ++ es') 0⟩ List.mem_cons_self
  · exact hy.own k (List.mem_cons_of_mem _ hk)
theorem delT_ok (b i j : Nat) (hj : j = i + 1) (es : List PV) (hc : es.all cellsB = true) (hi : i < es.length) :
    ACalls Tryd.prog W 94 [.rsl b 1 0 es.length, .int .i64 i, .int .i64 j] [⟨b, .row 1 es 0⟩]
      (Gives (fun _ : Unit => .rsl b 1 0 (es.length - 1)) (fun _ => [⟨b, .row 1 (es.take i ++ es.drop j) 0⟩]) (fun _ => True)) := ACalls.cut W (delR_ok W b i j hj es hc hi)
theorem insE_ok (b bv : Nat) (es : List PV) (x : PV) (hc : es.all cellsB = true) (hx : cellsB x = true) (hb : (es.length + 1) * 24 ≤ 140737488355328) :
    ACalls Tryd.prog W 93 [.rsl b 1 0 es.length, .int .i64 es.length, .rsl bv 1 0 1] [⟨b, .row 1 es 0⟩, ⟨bv, .row 1 [x] 0⟩]
      (Gives (fun b' : Nat => .rsl b' 1 0 (es.length + 1)) (fun b' => [⟨b', .row 1 (es ++ [x]) 0⟩]) (fun _ => True)) := by
  have hxs : [x].all cellsB = true := by simpa using hx
  refine acalls_of_vc (drawOk W) Tryd.func93 rfl (by decide) (by decide) rfl ?_
  (refine g0_ ?_; repeat ((first | refine n1_ fun b_ => ?_ | refine n2_ fun b_ => ?_); refine g0_ ?_))
  (refine g1_ ?_; repeat ((first | refine n1_ fun b_ => ?_ | refine n2_ fun b_ => ?_); refine g1_ ?_))
  exact ⟨b_, trivial, rfl, ⟨[⟨bv, .row 1 [x] 0⟩], .refl _⟩⟩
/-- One row put in among rows. -/
theorem insR_ok (b j bv : Nat) (es : List PV) (x : PV) (hc : es.all cellsB = true) (hx : cellsB x = true) (hj : j ≤ es.length) (hb : (es.length + 1) * 24 ≤ 140737488355328) :
    ACalls Tryd.prog W 93 [.rsl b 1 0 es.length, .int .i64 j, .rsl bv 1 0 1] [⟨b, .row 1 es 0⟩, ⟨bv, .row 1 [x] 0⟩]
      (Gives (fun b' : Nat => .rsl b' 1 0 (es.length + 1)) (fun b' => [⟨b', .row 1 (es.take j ++ [x] ++ es.drop j) 0⟩]) (fun _ => True)) := by
  by_cases h : j < es.length
  · exact insS_ok W b j bv es x hc hx h hb
  · obtain rfl : j = es.length := by omega
    rw [List.take_length, List.drop_length, List.append_nil]
    exact insE_ok W b bv es x hc hx hb
end Go.Eng.YtphoefglfbifdaaDoor
end
