/- Texts put together: DelS, DelT, BndP, BndB. -/
import Derived.Deep.RegionLaw
import Derived.Deep.LoopGhost
import Derived.Lib.Walk
import Derived.Lib.SliceRun
import Derived.Lib.SlicesDelete
import Derived.Sort.WalkB12
import Derived.Shelf.Spec.SlicesInsert
import Derived.Test.YtecafnhnkklboaaDoorMBN2
import Derived.Laws.IdiomCopy
import Derived.Test.YtecafnhnkklboaaDoorMBN5
import Derived.Test.YtecafnhnkklboaaDoorMG1
/- slices.Delete of one binding among bindings: by the kit's walk. -/
section
namespace Go.Eng.YtecafnhnkklboaaDoor
open Go Go.Eng Go.Proofs Go.RowKit Go.Lib
set_option linter.unusedSimpArgs false
set_option maxRecDepth 1000000
set_option linter.unusedVariables false
set_option maxHeartbeats 8000000
theorem run_clear_one {P : Program} (w : World) (t e ty : TypeId) (z : Value) (ht : P.underlying t = some (.slice e)) (hv : ∀ w, (zeroValue e).run P w = .ok z w) (zs : List Value) (hz : z.cells = zs.toArray) (h1 : ∀ v ∈ zs, v.oneCell' = true) (b o c : Nat)
    (hc : ∀ j, j < zs.length → (w.cell? ⟨b, o + j, none⟩).isSome = true) (hf : ∀ j, j < zs.length → w.frozen? ⟨b, o + j, none⟩ = false) :
    (Builtin.clear_ #[t] ty #[.slice (some ⟨b, o, none⟩) 1 c]).run P w = .ok (.tuple #[]) (w.setCells b o zs) := by
  have hzc : (Builtin.zeroCells z.cells 1).toList = zs := by
    rw [hz]
    apply List.ext_getElem
    · simp [Builtin.zeroCells]
    · intro i h1 h2
      simp [Builtin.zeroCells, Nat.mod_eq_of_lt h2, h2]
  have hst := run_storeCells_cells (P := P) b o zs 0 w hc hf h1
  simp only [Nat.add_zero] at hst
  simp [Builtin.clear_, run_underlying ht, hv, hzc, hst]
def zsB : List Value := [.int .i64 0, .int .i32 0, .int .i64 0, .int .i64 0, .string ⟨#[]⟩]
theorem del_rawS (b off cap i j m : Nat) (hj : j = i + 1) (cs : List Value) (hm : cs.length = m * 5) (w : World) (hH : ∀ t v, cs[t]? = some v → w.cell? ⟨b, off + t, none⟩ = some v ∧ w.frozen? ⟨b, off + t, none⟩ = false) (hone : ∀ v ∈ cs, v.oneCell' = true) (hi : i < m) (hcap : m ≤ cap) :
    Calls Tryd.prog 27 #[.slice (some ⟨b, off, none⟩) m cap, .int .i64 i, .int .i64 j] w fun e w' =>
      e = .returned (.slice (some ⟨b, off, none⟩) (m - 1) cap) ∧ w' = (w.drew.setCells b (off + i * 5) (cs.drop (j * 5))).setCells b (off + (m - 1) * 5) zsB := by
  have mixed : Tryd.prog.follows .mixedOrders = true := by kernel_rfl
  have t30 := Tryd.underlying24
  have a30 := Tryd.isAgg24
  have z30 := Tryd.sizeOf24
  have v30 := Tryd.zeroValue24
  have t3 := Tryd.underlying3
  have v22 := Tryd.zeroValue47
  have z22 := Tryd.sizeOf47
  obtain ⟨i0, z0, hi0, hz0, hce, hpos, hzs, hzz, hL, hone0⟩ := zeroCells_rel (P := Tryd.prog) (K := fun _ _ => False) (w := w) (e := 47) (by kernel_rfl) 0
  have h1 : i0.size = 5 := hce.symm.trans (by kernel_rfl)
  clear hzz hL hone0 hzs hpos hce
  obtain ⟨news, hnews⟩ : ∃ news, news = cs.drop (j * 5) := ⟨_, rfl⟩
  obtain ⟨n, hn⟩ : ∃ n, n = m := ⟨_, rfl⟩
  have hlen : news.length = (n - j) * 5 := by rw [hnews, List.length_drop, hn, hm]; omega
  have hget : ∀ t u, news[t]? = some u → w.cell? ⟨b, off + (j * 5 + t), none⟩ = some u := fun t u hu => (hH (j * 5 + t) u (by rw [hnews, List.getElem?_drop] at hu; exact hu)).1
  have hcell : ∀ t, t < n * 5 → (w.cell? ⟨b, off + t, none⟩).isSome = true ∧ w.frozen? ⟨b, off + t, none⟩ = false := fun t ht => by
    have := hH t _ (List.getElem?_eq_getElem (by omega))
    exact ⟨by rw [this.1]; rfl, this.2⟩
  obtain ⟨A, hA, hsrc⟩ : ∃ A : Addr, (if cap = j then some (⟨b, off, none⟩ : Addr) else some ⟨b, off + j * 5, none⟩) = some A ∧ Hid (∀ t u, news[t]? = some u → w.drew.cell? (A.add t) = some u) := by
    by_cases h : cap = j
    · refine ⟨⟨b, off, none⟩, by simp [h], fun t u hu => ?_⟩
      have h0 : news.length = 0 := by rw [hlen]; omega
      rw [List.length_eq_zero_iff.1 h0] at hu
      simp at hu
    · refine ⟨⟨b, off + j * 5, none⟩, by simp [h], fun t u hu => ?_⟩
      rw [Addr.add_lit, Nat.add_assoc]
      exact hget t u hu
  have s1 : Hid (news.length = (n - j) * 5) := hlen
  have s2 : Hid (∀ u ∈ news, u.oneCell' = true) := fun u hu => hone u (by rw [hnews] at hu; exact List.mem_of_mem_drop hu)
  have s3 : Hid (∀ t, t < news.length → (w.drew.cell? ⟨b, off + i * 5 + t, none⟩).isSome = true ∧ w.drew.frozen? ⟨b, off + i * 5 + t, none⟩ = false) := fun t ht => by
    rw [show off + i * 5 + t = off + (i * 5 + t) by omega]
    exact hcell (i * 5 + t) (by omega)
  obtain ⟨W1, hW1⟩ : ∃ W1, W1 = w.drew.setCells b (off + i * 5) news := ⟨_, rfl⟩
  have hW1c : ∀ t, t < n * 5 → (W1.cell? ⟨b, off + t, none⟩).isSome = true ∧ W1.frozen? ⟨b, off + t, none⟩ = false := fun t ht => by
    rw [hW1]
    exact ⟨isSome_setCells b news _ _ (fun u hu => by rw [show off + i * 5 + u = off + (i * 5 + u) by omega]; exact (hcell (i * 5 + u) (by omega)).1) _ (hcell t ht).1, by rw [World.frozen?_setCells]; exact (hcell t ht).2⟩
  have hcl : ∀ ty, (Builtin.clear_ #[24] ty #[.slice (some ⟨b, off + (i + (n - j)) * 5, none⟩) (n - (i + (n - j))) (cap - (i + (n - j)))]).run Tryd.prog W1 = .ok (.tuple #[]) (W1.setCells b (off + (i + (n - j)) * 5) zsB) := fun ty => by
    rw [show n - (i + (n - j)) = 1 by omega]
    exact run_clear_one W1 _ _ ty _ t30 v22 zsB rfl (by decide) b _ _ (fun t ht => by
      have h5 : t < 5 := ht
      rw [show off + (i + (n - j)) * 5 + t = off + ((i + (n - j)) * 5 + t) by omega]; exact (hW1c _ (by omega)).1) (fun t ht => by
      have h5 : t < 5 := ht
      rw [show off + (i + (n - j)) * 5 + t = off + ((i + (n - j)) * 5 + t) by omega]; exact (hW1c _ (by omega)).2)
  have hW : Hid (W1 = w.drew.setCells b (off + i * 5) news) := hW1
  have hic : i ≤ cap := by omega
  have hjc : j ≤ cap := by omega
  have hjn : j ≤ n := by omega
  have hlt : i < j := by omega
  have hJ : Hid (j = i + 1) := hj
  rw [← hn] at hcap ⊢
  rw [← hnews]
  clear hW1 hW1c hget hcell hone hH hnews hlen hn hi hj hm
  go_enter Tryd.func27, Tryd.ntmps27
  go_wp2_with fail
  go_region_law_o (refine step_append_room rfl (.tmp 22) (.tmp 25) 24 rfl 47 i0 5 t30 hi0 h1 b off i cap (by simp [Act.eval, Act.put]) A (n - j) (cap - j) news (by simp [Act.eval, Act.put]) s1.out hsrc.out s2.out (by omega) s3.out ?_; rw [← hW.out])
  go_wp2
  go_ret
  rw [show i + (n - j) = n - 1 by have := hJ.out; omega, hW.out]
  exact ⟨rfl, rfl⟩
end Go.Eng.YtecafnhnkklboaaDoor
end

/- slices.Delete of one binding among bindings. -/
section
namespace Go.Eng.YtecafnhnkklboaaDoor
open Go Go.Eng Go.Proofs
variable (W : World)
set_option linter.unusedSimpArgs false
set_option maxRecDepth 100000
set_option linter.unusedVariables false
set_option maxHeartbeats 4000000
theorem store_setS {P : Program} {w w' : World} {b o : Nat} {vs : List Value} (h : (storeCells ⟨b, o, none⟩ vs).run P w = .ok () w') (hc : ∀ j, j < vs.length → (w.cell? ⟨b, o + j, none⟩).isSome = true ∧ w.frozen? ⟨b, o + j, none⟩ = false) (h1 : ∀ v ∈ vs, v.oneCell' = true) : w' = w.setCells b o vs := by
  have := run_storeCells_cells (P := P) b o vs 0 w (fun j hj => (hc j hj).1) (fun j hj => (hc j hj).2) h1
  rw [h] at this
  exact (Result.ok.inj this).2
def zBnd : PV := .agg [.int .i64 0, .int .i32 0, .int .i64 0, .int .i64 0, .str []]
theorem delS_ok (b i j : Nat) (hj : j = i + 1) (es : List PV) (hc : es.all cellsB = true) (hi : i < es.length) :
    ACalls Tryd.prog W 27 [.rsl b 5 0 es.length, .int .i64 i, .int .i64 j] [⟨b, .row 5 es 0⟩]
      (Gives (fun _ : Unit => .rsl b 5 0 (es.length - 1)) (fun _ => [⟨b, .row 5 (es.take i ++ es.drop j ++ [zBnd]) 0⟩]) (fun _ => True)) := by
  refine ⟨⟨_, Tryd.func27, by kernel_rfl, by kernel_rfl⟩, fun K w vs hl hr hm hp => ?_⟩
  obtain ⟨v0, v1, v2, rfl⟩ : ∃ v0 v1 v2, vs = [v0, v1, v2] := by
    match vs, hl with
    | [a, b, c], _ => exact ⟨a, b, c, rfl⟩
  have q0 : VRel K w (.rsl b 5 0 es.length) v0 := hr 0 (by simp)
  have q1 : VRel K w (.int .i64 i) v1 := hr 1 (by simp)
  have q2 : VRel K w (.int .i64 j) v2 := hr 2 (by simp)
  cases q1
  cases q2
  cases q0
  rename_i o cap hsh hcap ho
  obtain rfl : o = 0 := by simpa using ho (.inr rfl)
  have hro : RowOk K w b 5 es 0 := hm.blk ⟨b, .row 5 es 0⟩ List.mem_cons_self
  obtain ⟨cs, ty, g1, g2, g3⟩ := hro.flats
  have hfl := flats_length hro.hz
  obtain ⟨vals, hv⟩ : ∃ vals, vals = (List.range (es.length * 5)).map fun t => cs.getD t undef := ⟨_, rfl⟩
  have hvl : vals.length = es.length * 5 := by rw [hv]; simp
  have hva : ∀ t, t < es.length * 5 → vals[t]? = some (cs.getD t undef) := fun t ht => by rw [hv, List.getElem?_map, List.getElem?_range ht]; rfl
  have hL : LRel K w (flats es) vals := ⟨by rw [hfl, hvl], fun t ht => by
    rw [hfl] at ht
    rw [List.getD_eq_getElem?_getD (l := vals), hva t ht, Option.getD_some]
    exact g3 t ht⟩
  have hone := one_of_cellsB hL (fun y hy => List.all_eq_true.1 hc y hy)
  have hcell : ∀ t v, vals[t]? = some v → w.cell? ⟨b, 0 + t, none⟩ = some v ∧ w.frozen? ⟨b, 0 + t, none⟩ = false := fun t v htv => by
    have ht : t < es.length * 5 := by rw [← hvl]; exact (List.getElem?_eq_some_iff.1 htv).1
    rw [hva t ht] at htv
    rw [Nat.zero_add, Lib.cell_of_heap g1, Lib.frozen_of_heap g1]
    refine ⟨?_, rfl⟩
    rw [← Option.some.inj htv, Array.getD_eq_getD_getElem?, Array.getElem?_eq_getElem (by omega)]; rfl
  have hdel := del_rawS b 0 cap i j es.length hj vals hvl w hcell hone hi (by omega)
  refine hdel.mono ?_
  rintro e w' ⟨rfl, hw'⟩
  subst hj
  have hmd : SatM K [⟨b, .row 5 es 0⟩] w.drew := hm.drawn _
  have hLd : LRel K w.drew (flats (es.drop (i + 1))) (vals.drop ((i + 1) * 5)) := by
    have h3 : flats es = flats (es.take (i + 1)) ++ flats (es.drop (i + 1)) := by rw [← flats_append, List.take_append_drop]
    have h4 : (flats (es.take (i + 1))).length = (i + 1) * 5 := by rw [flats_length (fun e he => hro.hz e (List.mem_of_mem_take he)), List.length_take]; omega
    have h5 : (flats (es.drop (i + 1))).length = (es.length - (i + 1)) * 5 := by rw [flats_length (fun e he => hro.hz e (List.mem_of_mem_drop he)), List.length_drop]
    refine ⟨by rw [h5, List.length_drop, hvl]; omega, fun t ht => ?_⟩
    rw [h5] at ht
    have h6 := hL.2 ((i + 1) * 5 + t) (by rw [hfl]; omega)
    rw [h3, List.getD_eq_getElem?_getD, List.getElem?_append_right (by omega), h4, Nat.add_sub_cancel_left] at h6
    rw [List.getD_eq_getElem?_getD, List.getD_eq_getElem?_getD, List.getElem?_drop]
    rw [List.getD_eq_getElem?_getD] at h6
    exact VRel.mono (w := w) (w' := w.drew) (fun _ _ h => ⟨h, rfl⟩) (fun _ _ h => h) h6
  obtain ⟨w1, s1, s2, s3⟩ := over_row (P := Tryd.prog) (ys := es.drop (i + 1)) (vs := vals.drop ((i + 1) * 5)) (i := i) hmd (.here _ _ _) (by simp; omega) (Nat.zero_le _) (fun y hy => hro.hz y (List.mem_of_mem_drop hy)) hLd (fun v hv => hone v (List.mem_of_mem_drop hv))
  have hc0 : ∀ t, t < es.length * 5 → (w.cell? ⟨b, t, none⟩).isSome = true ∧ w.frozen? ⟨b, t, none⟩ = false := fun t ht => by
    have := hcell t _ (hva t ht)
    rw [Nat.zero_add] at this
    exact ⟨by rw [this.1]; rfl, this.2⟩
  have e1 := store_setS s1 (fun t ht => hc0 (i * 5 + t) (by rw [List.length_drop, hvl] at ht; omega)) (fun v hv => hone v (List.mem_of_mem_drop hv))
  obtain ⟨w2, u1, u2, u3⟩ := over_row (P := Tryd.prog) (ys := [zBnd]) (vs := zsB) (i := es.length - 1) s2 (.here _ _ _) (by simp; omega) (Nat.zero_le _) (fun y hy => by rw [List.mem_singleton.1 hy]; rfl) ⟨rfl, fun t ht => by
    change t < 5 at ht
    match t, ht with
    | 0, _ => exact .int _ _
    | 1, _ => exact .int _ _
    | 2, _ => exact .int _ _
    | 3, _ => exact .int _ _
    | 4, _ => exact .str _⟩ (by decide)
  have e2 := store_setS u1 (fun t ht => by
    have h5 : t < 5 := ht
    rw [e1, World.frozen?_setCells]
    exact ⟨isSome_setCells b (vals.drop ((i + 1) * 5)) (i * 5) w.drew (fun q hq => (hc0 (i * 5 + q) (by rw [List.length_drop, hvl] at hq; omega)).1) _ (hc0 ((es.length - 1) * 5 + t) (by omega)).1, (hc0 ((es.length - 1) * 5 + t) (by omega)).2⟩) (by decide)
  have e3 : w' = w2 := by rw [hw', e2, e1, Nat.zero_add, Nat.zero_add]
  subst e3
  have hX : (es.take i ++ es.drop (i + 1) ++ es.drop (i + (es.drop (i + 1)).length)).take (es.length - 1) ++ [zBnd] ++ (es.take i ++ es.drop (i + 1) ++ es.drop (i + (es.drop (i + 1)).length)).drop (es.length - 1 + [zBnd].length) = es.take i ++ es.drop (i + 1) ++ [zBnd] := by
    have hn : (es.take i ++ es.drop (i + 1)).length = es.length - 1 := by simp; omega
    have hD : (es.drop (i + (es.drop (i + 1)).length)).length = 1 := by rw [List.length_drop, List.length_drop]; omega
    rw [List.take_left' hn, show (es.take i ++ es.drop (i + 1) ++ es.drop (i + (es.drop (i + 1)).length)).drop (es.length - 1 + [zBnd].length) = [] from List.drop_eq_nil_of_le (by rw [List.length_append, hn, hD]; exact Nat.le_refl _), List.append_nil]
  rw [hX] at u2 u3
  have hx := ((Ext.drawn [⟨b, .row 5 es 0⟩] K w _).trans s3).trans u3
  obtain ⟨e, m, m1, m2⟩ := hsh
  exact ⟨_, .rsl b 5 0 (es.length - 1), _, K, rfl, ⟨(), trivial, rfl, wkMem.rfl'⟩, .rsl b 5 0 _ 0 cap (fun _ => by simp) (by omega) ⟨e, m, hx.shape _ _ m1, m2⟩, u2, hx⟩
end Go.Eng.YtecafnhnkklboaaDoor
end

/- Keys that are commands: a key bound (plain); tables compared, copied (b_ x_ q_ e_). -/
section
namespace Go.Eng.YtecafnhnkklboaaDoor
open Go Go.Eng Go.Proofs Go.Maps
variable (W : World)
set_option linter.unusedSimpArgs false
set_option maxRecDepth 100000
set_option linter.unusedVariables false
set_option maxHeartbeats 8000000
def noTab : BTab := ⟨keyZ, []⟩
def bindL (k : Key) (cmd : List UInt8) : List Bnd → List Bnd
  | [] => []
  | b :: L => (if b.k ≠ k then [b] else if cmd ≠ [] then [⟨k, cmd⟩] else []) ++ bindL k cmd L
theorem bindL_app (k : Key) (cmd : List UInt8) : ∀ (A B : List Bnd), bindL k cmd (A ++ B) = bindL k cmd A ++ bindL k cmd B
  | [], B => rfl
  | a :: A, B => by rw [List.cons_append, bindL, bindL, bindL_app k cmd A B, List.append_assoc]
theorem bindL_none (k : Key) (cmd : List UInt8) : ∀ L : List Bnd, (∀ b ∈ L, b.k ≠ k) → bindL k cmd L = L
  | [], _ => rfl
  | b :: L, h => by rw [bindL, if_pos (h b (by simp)), bindL_none k cmd L fun x hx => h x (List.mem_cons_of_mem _ hx)]; rfl
theorem bindL_len (k : Key) (cmd : List UInt8) : ∀ L : List Bnd, (bindL k cmd L).length ≤ L.length
  | [] => Nat.le_refl _
  | b :: L => by
    have := bindL_len k cmd L
    rw [bindL, List.length_append, List.length_cons]
    split
    · simp; omega
    · split <;> simp <;> omega
def hasK (L : List Bnd) (k : Key) : Bool := L.any fun b => decide (b.k = k)
def bindE (t : BTab) (k : Key) (cmd : List UInt8) : BTab × Int :=
  if checkT t ≠ 0 then (noTab, checkT t) else if ¬ isKey k then (noTab, 5) else if (wordsB cmd).2 ≠ 0 then (noTab, (wordsB cmd).2)
  else if cmd = [] ∨ hasK t.binds k = true then (⟨t.pre, bindL k cmd t.binds⟩, 0)
  else if (bindL k cmd t.binds).length = 20 then (noTab, 10) else (⟨t.pre, bindL k cmd t.binds ++ [⟨k, cmd⟩]⟩, 0)
theorem checkB_nodup : ∀ (L : List Bnd) (seen : List Key), checkB seen L = 0 → (∀ b ∈ L, ¬ b.k ∈ seen) ∧ (keysB L).Nodup
  | [], seen, _ => ⟨fun b hb => (by cases hb), List.nodup_nil⟩
  | b :: L, seen, h => by
    rw [checkB] at h
    split at h
    · cases h
    · split at h
      · cases h
      · rename_i h2
        split at h
        · rename_i h3
          exact absurd h h3
        · obtain ⟨i1, i2⟩ := checkB_nodup L (seen ++ [b.k]) h
          refine ⟨fun x hx => ?_, ?_⟩
          · rcases List.mem_cons.1 hx with rfl | hx
            · exact h2
            · exact fun e => i1 x hx (List.mem_append_left _ e)
          · refine List.nodup_cons.2 ⟨fun e => ?_, i2⟩
            obtain ⟨y, hy, e2⟩ := List.mem_map.1 e
            exact i1 y hy (List.mem_append_right _ (by rw [e2]; simp))
def idxB (k : Key) : Nat → List Bnd → Int
  | _, [] => -1
  | j, b :: L => if b.k = k then j else idxB k (j + 1) L
/-- Where a key stands: nowhere, or at one place. -/
theorem idx_cases (k : Key) : ∀ (L : List Bnd) (j : Nat), (keysB L).Nodup → ((idxB k j L = -1 ∧ hasK L k = false ∧ ∀ b ∈ L, b.k ≠ k) ∨
    ∃ A b B, L = A ++ b :: B ∧ b.k = k ∧ idxB k j L = ((j + A.length : Nat) : Int) ∧ hasK L k = true ∧ (∀ x ∈ A, x.k ≠ k) ∧ (∀ x ∈ B, x.k ≠ k))
  | [], j, _ => .inl ⟨rfl, rfl, fun b hb => (by cases hb)⟩
  | b :: L, j, h => by
    obtain ⟨h1, h2⟩ := List.nodup_cons.1 (show (b.k :: keysB L).Nodup from h)
    by_cases e : b.k = k
    · refine .inr ⟨[], b, L, rfl, e, by rw [idxB, if_pos e]; rfl, by simp [hasK, e], fun x hx => (by cases hx), fun x hx e2 => h1 ?_⟩
      rw [e, ← e2]
      exact List.mem_map_of_mem hx
    · rcases idx_cases k L (j + 1) h2 with ⟨i1, i2, i3⟩ | ⟨A, c, B, rfl, i2, i3, i4, i5, i6⟩
      · refine .inl ⟨by rw [idxB, if_neg e]; exact i1, ?_, fun x hx => ?_⟩
        · unfold hasK at i2 ⊢
          rw [List.any_cons, i2]
          simp [e]
        · rcases List.mem_cons.1 hx with rfl | hx
          · exact e
          · exact i3 x hx
      · refine .inr ⟨b :: A, c, B, rfl, i2, ?_, ?_, fun x hx => ?_, i6⟩
        · rw [idxB, if_neg e, i3, List.length_cons]
          congr 1
          omega
        · unfold hasK at i4 ⊢
          rw [List.any_cons, i4]
          simp
        · rcases List.mem_cons.1 hx with rfl | hx
          · exact e
          · exact i5 x hx
/-! ### Compared -/
def bndOk (b : Bnd) : Prop := b.k.ok ∧ b.cmd.length ≤ 140737488355328
theorem cells_bnd : Tryd.prog.cellsOf 47 = 5 := by kernel_rfl
theorem cells_bndS : Tryd.prog.cellsOf 9 = 1 := by kernel_rfl
def litsBnd (b : Bnd) : List Lit := litsKey b.k ++ [.string b.cmd]
theorem lits_bnd (b : Bnd) (h : bndOk b) : Tryd.prog.keyLits 5 47 [.int .i64 b.k.kind, .int .i32 b.k.r, .int .i64 b.k.n, .int .i64 b.k.held, .string ⟨b.cmd.toArray⟩] = some (litsBnd b) := by
  have h1 := lits_key b.k h.1
  have hb := h.2
  have hs : Tryd.prog.keyLits 4 9 [.string ⟨b.cmd.toArray⟩] = some [.string b.cmd] := by
    have : (⟨b.cmd.toArray⟩ : ByteArray).size ≤ maxLen := by simp [ByteArray.size, maxLen]; omega
    simp [Program.keyLits, Tryd.underlying9, this]
  conv => lhs; unfold Program.keyLits
  rw [Tryd.underlying47]
  dsimp only
  rw [if_pos ⟨by rw [cells_bnd]; rfl, by simp⟩]
  simp only [List.mapM_cons, List.mapM_nil]
  rw [cells_key, cells_bndS]
  simp only [List.drop_zero, List.drop_succ_cons, List.take_succ_cons, List.take_zero, h1, hs]
  rfl
theorem neq_bnd (a b : Bnd) (ha : bndOk a) (hb : bndOk b) (xo yo : Operand) : EqLaw Tryd.prog .neq 47 xo yo (encBnd a) (encBnd b) (!decide (a = b)) :=
  neqLaw_agg 5 (by kernel_rfl) (by decide) (by kernel_rfl) Tryd.underlying47 rfl rfl (by rw [cells_bnd]; rfl) (by rw [cells_bnd]; rfl) (lits_bnd a ha) (lits_bnd b hb) (by
    obtain ⟨⟨a0, a1, a2, a3⟩, a4⟩ := a
    obtain ⟨⟨b0, b1, b2, b3⟩, b4⟩ := b
    simp [litsBnd, litsKey, and_assoc])
theorem equal_bnds (a b : List Bnd) (ha : (a.length : Int) ≤ 9223372036854775807) (hoa : ∀ c ∈ a, bndOk c) (hob : ∀ c ∈ b, bndOk c) :
    Pure Tryd.prog W 40 [.sl 5 (a.map encBnd), .sl 5 (b.map encBnd)] (.bool (decide (a = b))) := by
  refine Pure.of (acalls_of_vc (drawOk W) Tryd.func40 rfl (by decide) (by decide) rfl ?_)
  (refine g0_ ?_; repeat ((first | refine n1_ fun b_ => ?_ | refine n2_ fun b_ => ?_ | refine Nat1.mk fun q_ hq_ => ?_ | refine em_ fun x_ hx_ => ?_ | refine Elem1.mk fun e_ he_ => ?_); refine g0_ ?_))
  refine brec ?_; intro c_ hc; (try rw [hc]); cases c_ <;> replace hc := nm_ hc
  · have hlen : a.length = b.length := by simp at hc; omega
    (refine g0_ ?_; repeat ((first | refine n1_ fun b_ => ?_ | refine n2_ fun b_ => ?_ | refine Nat1.mk fun q_ hq_ => ?_ | refine em_ fun x_ hx_ => ?_ | refine Elem1.mk fun e_ he_ => ?_); refine g0_ ?_))
    refine' loopI (α := Nat) (fun i => [(13, .int .i64 i)]) [(0, _), (1, _), (12, _)] (fun i => []) (fun i => i ≤ a.length ∧ a.take i = b.take i) (fun i => a.length - i) 0 ?_ ?_
    · exact ⟨Nat.zero_le _, by simp⟩
    rintro i ⟨hi, hw⟩
    (refine g0_ ?_; repeat ((first | refine n1_ fun b_ => ?_ | refine n2_ fun b_ => ?_ | refine Nat1.mk fun q_ hq_ => ?_ | refine em_ fun x_ hx_ => ?_ | refine Elem1.mk fun e_ he_ => ?_); refine g0_ ?_))
    refine brec ?_; intro c_ h1; (try rw [h1]); cases c_ <;> replace h1 := nm_ h1
    · (refine g0_ ?_; repeat ((first | refine n1_ fun b_ => ?_ | refine n2_ fun b_ => ?_ | refine Nat1.mk fun q_ hq_ => ?_ | refine em_ fun x_ hx_ => ?_ | refine Elem1.mk fun e_ he_ => ?_); refine g0_ ?_))
      have : i = a.length := by simp at h1; omega
      subst this
      rw [List.take_length, hlen, List.take_length] at hw
      rw [hw]
      simp
      exact .refl _
    · have hlt : i < a.length := by simp at h1; omega
      (refine g0_ ?_; repeat ((first | refine n1_ fun b_ => ?_ | refine n2_ fun b_ => ?_ | refine Nat1.mk fun q_ hq_ => ?_ | refine em_ fun x_ hx_ => ?_ | refine Elem1.mk fun e_ he_ => ?_); refine g0_ ?_))
      refine head_ ?_; (refine g0_ ?_; repeat ((first | refine n1_ fun b_ => ?_ | refine n2_ fun b_ => ?_ | refine Nat1.mk fun q_ hq_ => ?_ | refine em_ fun x_ hx_ => ?_ | refine Elem1.mk fun e_ he_ => ?_); refine g0_ ?_))
      rename_i x hx
      have m1 := hoa _ (List.mem_of_getElem? hx)
      have m2 := hob _ (List.mem_of_getElem? hx_)
      refine ⟨_, neq_bnd x x_ m1 m2 _ _, ?_⟩
      (refine g0_ ?_; repeat ((first | refine n1_ fun b_ => ?_ | refine n2_ fun b_ => ?_ | refine Nat1.mk fun q_ hq_ => ?_ | refine em_ fun x_ hx_ => ?_ | refine Elem1.mk fun e_ he_ => ?_); refine g0_ ?_))
      refine brec ?_; intro c_ h2; (try rw [h2]); cases c_ <;> replace h2 := nm_ h2
      · (refine g0_ ?_; repeat ((first | refine n1_ fun b_ => ?_ | refine n2_ fun b_ => ?_ | refine Nat1.mk fun q_ hq_ => ?_ | refine em_ fun x_ hx_ => ?_ | refine Elem1.mk fun e_ he_ => ?_); refine g0_ ?_))
        refine nx_ (i + 1) ?_ ?_
        · exact ⟨hlt, by rw [take_snoc_of hx, take_snoc_of hx_, hw]; simp_all⟩
        · omega
      · (refine g0_ ?_; repeat ((first | refine n1_ fun b_ => ?_ | refine n2_ fun b_ => ?_ | refine Nat1.mk fun q_ hq_ => ?_ | refine em_ fun x_ hx_ => ?_ | refine Elem1.mk fun e_ he_ => ?_); refine g0_ ?_))
        have : a ≠ b := by rintro rfl; simp_all
        simp [this]
        exact .refl _
  · have hne : a ≠ b := by
      rintro rfl
      exact hc rfl
    (refine g0_ ?_; repeat ((first | refine n1_ fun b_ => ?_ | refine n2_ fun b_ => ?_ | refine Nat1.mk fun q_ hq_ => ?_ | refine em_ fun x_ hx_ => ?_ | refine Elem1.mk fun e_ he_ => ?_); refine g0_ ?_))
    simp [hne]
    exact .refl _
theorem bsame_ok (a b : BTab) (ha : a.ok) (hb : b.ok) : Pure Tryd.prog W 22 [encTab a, encTab b] (.bool (decide (a = b))) := by
  have hE := eql_key a.pre b.pre ha.1 hb.1
  have heq := equal_bnds W a.binds b.binds (by have := ha.2.2; omega) ha.2.1 hb.2.1
  obtain ⟨ap, al⟩ := a
  obtain ⟨bp, bl⟩ := b
  dsimp only at hE heq
  unfold encTab
  dsimp only
  by_cases h : ap = bp
  · rw [decide_eq_true h] at hE
    rw [show decide ((⟨ap, al⟩ : BTab) = ⟨bp, bl⟩) = decide (al = bl) from decide_eq_decide.2 (by simp [h])]
    refine Pure.of (acalls_of_vc (drawOk W) Tryd.func22 rfl (by decide) (by decide) rfl ?_)
    (refine g0_ ?_; repeat ((first | refine n1_ fun b_ => ?_ | refine n2_ fun b_ => ?_ | refine Nat1.mk fun q_ hq_ => ?_ | refine em_ fun x_ hx_ => ?_ | refine Elem1.mk fun e_ he_ => ?_); refine g0_ ?_))
    refine ⟨_, hE _ _, ?_⟩
    (refine g1_ ?_; repeat ((first | refine n1_ fun b_ => ?_ | refine n2_ fun b_ => ?_ | refine Nat1.mk fun q_ hq_ => ?_ | refine em_ fun x_ hx_ => ?_ | refine Elem1.mk fun e_ he_ => ?_); refine g1_ ?_))
    refine (heq).use ?_; (refine g0_ ?_; repeat ((first | refine n1_ fun b_ => ?_ | refine n2_ fun b_ => ?_ | refine Nat1.mk fun q_ hq_ => ?_ | refine em_ fun x_ hx_ => ?_ | refine Elem1.mk fun e_ he_ => ?_); refine g0_ ?_))
    (refine g1_ ?_; repeat ((first | refine n1_ fun b_ => ?_ | refine n2_ fun b_ => ?_ | refine Nat1.mk fun q_ hq_ => ?_ | refine em_ fun x_ hx_ => ?_ | refine Elem1.mk fun e_ he_ => ?_); refine g1_ ?_))
    exact .refl _
  · rw [decide_eq_false h] at hE
    rw [decide_eq_false fun e => h (congrArg BTab.pre e)]
    refine Pure.of (acalls_of_vc (drawOk W) Tryd.func22 rfl (by decide) (by decide) rfl ?_)
    (refine g0_ ?_; repeat ((first | refine n1_ fun b_ => ?_ | refine n2_ fun b_ => ?_ | refine Nat1.mk fun q_ hq_ => ?_ | refine em_ fun x_ hx_ => ?_ | refine Elem1.mk fun e_ he_ => ?_); refine g0_ ?_))
    refine ⟨_, hE _ _, ?_⟩
    (refine g1_ ?_; repeat ((first | refine n1_ fun b_ => ?_ | refine n2_ fun b_ => ?_ | refine Nat1.mk fun q_ hq_ => ?_ | refine em_ fun x_ hx_ => ?_ | refine Elem1.mk fun e_ he_ => ?_); refine g1_ ?_))
    exact .refl _
/-! ### Copied -/
theorem bnds_all (l : List Bnd) : (l.map encBnd).all cellsB = true := by simp [cellsB, PV.flat, cellB, encBnd]
theorem clone_bnds0 (a : Option Addr) (c : Nat) : Pure Tryd.prog W 19 [.lit (.slice a 0 c)] (.sl 5 []) := by
  refine Pure.of (acalls_of_vc (drawOk W) Tryd.func19 rfl (by decide) (by decide) rfl ?_)
  (refine g0_ ?_; repeat ((first | refine n1_ fun b_ => ?_ | refine n2_ fun b_ => ?_ | refine Nat1.mk fun q_ hq_ => ?_ | refine em_ fun x_ hx_ => ?_ | refine Elem1.mk fun e_ he_ => ?_); refine g0_ ?_))
  refine ⟨_, eql_nil Tryd.underlying24 (.inl ⟨_, _, rfl, rfl⟩), ?_⟩
  (refine g0_ ?_; repeat ((first | refine n1_ fun b_ => ?_ | refine n2_ fun b_ => ?_ | refine Nat1.mk fun q_ hq_ => ?_ | refine em_ fun x_ hx_ => ?_ | refine Elem1.mk fun e_ he_ => ?_); refine g0_ ?_))
  refine brec ?_; intro c_ h; (try rw [h]); cases c_ <;> replace h := nm_ h
  · (refine g0_ ?_; repeat ((first | refine n1_ fun b_ => ?_ | refine n2_ fun b_ => ?_ | refine Nat1.mk fun q_ hq_ => ?_ | refine em_ fun x_ hx_ => ?_ | refine Elem1.mk fun e_ he_ => ?_); refine g0_ ?_))
    refine .inr ?_
    (refine g0_ ?_; repeat ((first | refine n1_ fun b_ => ?_ | refine n2_ fun b_ => ?_ | refine Nat1.mk fun q_ hq_ => ?_ | refine em_ fun x_ hx_ => ?_ | refine Elem1.mk fun e_ he_ => ?_); refine g0_ ?_))
    exact frz_row (.here _ _ _) _ rfl
  · (refine g0_ ?_; repeat ((first | refine n1_ fun b_ => ?_ | refine n2_ fun b_ => ?_ | refine Nat1.mk fun q_ hq_ => ?_ | refine em_ fun x_ hx_ => ?_ | refine Elem1.mk fun e_ he_ => ?_); refine g0_ ?_))
    exact .nils _
theorem clone_bnds1 (x : Bnd) (l : List Bnd) (hl : (l.length + 1) * 48 ≤ 140737488355328) : ACalls Tryd.prog W 19 [.sl 5 ((x :: l).map encBnd)] [] (GivesRow 5 ((x :: l).map encBnd)) := by
  refine acalls_of_vc (drawOk W) Tryd.func19 rfl (by decide) (by decide) rfl ?_
  have hc := bnds_all (x :: l)
  rw [List.map_cons] at *
  (refine g0_ ?_; repeat ((first | refine n1_ fun b_ => ?_ | refine n2_ fun b_ => ?_ | refine Nat1.mk fun q_ hq_ => ?_ | refine em_ fun x_ hx_ => ?_ | refine Elem1.mk fun e_ he_ => ?_); refine g0_ ?_))
  refine ⟨_, eql_nil Tryd.underlying24 (.inr (.inl ⟨_, _, _, rfl, rfl⟩)), ?_⟩
  (refine g0_ ?_; repeat ((first | refine n1_ fun b_ => ?_ | refine n2_ fun b_ => ?_ | refine Nat1.mk fun q_ hq_ => ?_ | refine em_ fun x_ hx_ => ?_ | refine Elem1.mk fun e_ he_ => ?_); refine g0_ ?_))
  refine .inr ?_
  (refine g0_ ?_; repeat ((first | refine n1_ fun b_ => ?_ | refine n2_ fun b_ => ?_ | refine Nat1.mk fun q_ hq_ => ?_ | refine em_ fun x_ hx_ => ?_ | refine Elem1.mk fun e_ he_ => ?_); refine g0_ ?_))
  exact GivesRow.mk _ (by simp) wkMem.rfl'
theorem clone_bnds (l : List Bnd) (hl : l.length * 48 ≤ 140737488355328) : Pure Tryd.prog W 19 [.sl 5 (l.map encBnd)] (.sl 5 (l.map encBnd)) := by
  cases l with
  | nil => exact Pure.of_empty (clone_bnds0 W)
  | cons x l => exact GivesRow.pure W (clone_bnds1 W x l (by simpa using hl))
/-! ### Sought -/
theorem is1_ok (b : Bnd) (k : Key) (hb : b.k.ok) (hk : k.ok) (m : Nat) : ACalls Tryd.prog W 26 [.agg [.int .i64 b.k.kind, .int .i32 b.k.r, .int .i64 b.k.n, .int .i64 b.k.held, .str b.cmd], .bref m 0] [⟨m, .row 4 [.agg [.int .i64 k.kind, .int .i32 k.r, .int .i64 k.n, .int .i64 k.held]] 0⟩]
    (Gives (fun _ : Unit => .bool (decide (b.k = k))) (fun _ => [⟨m, .row 4 [.agg [.int .i64 k.kind, .int .i32 k.r, .int .i64 k.n, .int .i64 k.held]] 0⟩]) (fun _ => True)) := by
  have hE := eql_key b.k k hb hk
  refine acalls_of_vc (drawOk W) Tryd.func26 rfl (by decide) (by decide) rfl ?_
  (refine g0_ ?_; repeat ((first | refine n1_ fun b_ => ?_ | refine n2_ fun b_ => ?_ | refine Nat1.mk fun q_ hq_ => ?_ | refine em_ fun x_ hx_ => ?_ | refine Elem1.mk fun e_ he_ => ?_); refine g0_ ?_))
  refine ⟨_, hE _ _, ?_⟩
  (refine g0_ ?_; repeat ((first | refine n1_ fun b_ => ?_ | refine n2_ fun b_ => ?_ | refine Nat1.mk fun q_ hq_ => ?_ | refine em_ fun x_ hx_ => ?_ | refine Elem1.mk fun e_ he_ => ?_); refine g0_ ?_))
  exact ⟨(), trivial, rfl, by (first | exact ⟨_, .refl _⟩ | exact wkMem.rfl' | exact ⟨_, .swap _ _ _⟩ | (repeat (first | exact wkMem.nil _ | exact wkMem.rfl' | exact wk_snoc _ _ _ | exact wk_fam (by assumption) _ _ _ | exact wk_famN (by assumption) _ _ _ | (apply wkMem.cons; (case' hl => (repeat (first | exact .here _ _ _ | apply Look.there)))) | apply wkMem.skip)))⟩
theorem index_bnds (L : List Bnd) (k : Key) (hL : ∀ b ∈ L, bndOk b) (hk : k.ok) (hl : L.length ≤ 17592186044416) (m : Nat) : ACalls Tryd.prog W 25 [.sl 5 (L.map encBnd), .fn 26 [.bref m 0]] [⟨m, .row 4 [.agg [.int .i64 k.kind, .int .i32 k.r, .int .i64 k.n, .int .i64 k.held]] 0⟩]
    (Gives (fun _ : Unit => .int .i64 (idxB k 0 L)) (fun _ => [⟨m, .row 4 [.agg [.int .i64 k.kind, .int .i32 k.r, .int .i64 k.n, .int .i64 k.held]] 0⟩]) (fun _ => True)) := by
  have hlm : (L.map encBnd).length = L.length := List.length_map _
  generalize hR : idxB k 0 L = R
  refine acalls_of_vc (drawOk W) Tryd.func25 rfl (by decide) (by decide) rfl ?_
  (refine g0_ ?_; repeat ((first | refine n1_ fun b_ => ?_ | refine n2_ fun b_ => ?_ | refine Nat1.mk fun q_ hq_ => ?_ | refine em_ fun x_ hx_ => ?_ | refine Elem1.mk fun e_ he_ => ?_); refine g0_ ?_))
  refine' loopI (α := Nat) (fun i => [(8, .int .i64 i)]) [(0, _), (1, _), (7, _)] (fun i => [⟨m, .row 4 [.agg [.int .i64 k.kind, .int .i32 k.r, .int .i64 k.n, .int .i64 k.held]] 0⟩]) (fun i => i ≤ L.length ∧ idxB k i (L.drop i) = R) (fun i => L.length - i) 0 ?_ ?_
  · exact ⟨Nat.zero_le _, hR⟩
  rintro i ⟨hi, hr⟩
  by_cases h1 : i = L.length
  · subst h1
    rw [List.drop_length] at hr
    have : R = -1 := hr.symm
    subst this
    (refine g0_ ?_; repeat ((first | refine n1_ fun b_ => ?_ | refine n2_ fun b_ => ?_ | refine Nat1.mk fun q_ hq_ => ?_ | refine em_ fun x_ hx_ => ?_ | refine Elem1.mk fun e_ he_ => ?_); refine g0_ ?_))
    (refine g1_ ?_; repeat ((first | refine n1_ fun b_ => ?_ | refine n2_ fun b_ => ?_ | refine Nat1.mk fun q_ hq_ => ?_ | refine em_ fun x_ hx_ => ?_ | refine Elem1.mk fun e_ he_ => ?_); refine g1_ ?_))
    exact ⟨(), trivial, rfl, by (first | exact ⟨_, .refl _⟩ | exact wkMem.rfl' | exact ⟨_, .swap _ _ _⟩ | (repeat (first | exact wkMem.nil _ | exact wkMem.rfl' | exact wk_snoc _ _ _ | exact wk_fam (by assumption) _ _ _ | exact wk_famN (by assumption) _ _ _ | (apply wkMem.cons; (case' hl => (repeat (first | exact .here _ _ _ | apply Look.there)))) | apply wkMem.skip)))⟩
  · obtain ⟨b, hb⟩ : ∃ b, L[i]? = some b := ⟨L[i]'(by omega), List.getElem?_eq_getElem _⟩
    have hbo := hL b (List.mem_of_getElem? hb)
    have hi1 := is1_ok W b k hbo.1 hk m
    rw [drop_cons_of hb, idxB] at hr
    by_cases h2 : b.k = k
    · rw [if_pos h2] at hr
      subst hr
      rw [decide_eq_true h2] at hi1
      (refine g0_ ?_; repeat ((first | refine n1_ fun b_ => ?_ | refine n2_ fun b_ => ?_ | refine Nat1.mk fun q_ hq_ => ?_ | refine em_ fun x_ hx_ => ?_ | refine Elem1.mk fun e_ he_ => ?_); refine g0_ ?_))
      (refine g1_ ?_; repeat ((first | refine n1_ fun b_ => ?_ | refine n2_ fun b_ => ?_ | refine Nat1.mk fun q_ hq_ => ?_ | refine em_ fun x_ hx_ => ?_ | refine Elem1.mk fun e_ he_ => ?_); refine g1_ ?_))
      refine ACalls.lend hi1 (r := []) (by simp) ?_
      rintro _ -
      (refine g1_ ?_; repeat ((first | refine n1_ fun b_ => ?_ | refine n2_ fun b_ => ?_ | refine Nat1.mk fun q_ hq_ => ?_ | refine em_ fun x_ hx_ => ?_ | refine Elem1.mk fun e_ he_ => ?_); refine g1_ ?_))
      exact ⟨(), trivial, rfl, by (first | exact ⟨_, .refl _⟩ | exact wkMem.rfl' | exact ⟨_, .swap _ _ _⟩ | (repeat (first | exact wkMem.nil _ | exact wkMem.rfl' | exact wk_snoc _ _ _ | exact wk_fam (by assumption) _ _ _ | exact wk_famN (by assumption) _ _ _ | (apply wkMem.cons; (case' hl => (repeat (first | exact .here _ _ _ | apply Look.there)))) | apply wkMem.skip)))⟩
    · rw [if_neg h2] at hr
      rw [decide_eq_false h2] at hi1
      (refine g0_ ?_; repeat ((first | refine n1_ fun b_ => ?_ | refine n2_ fun b_ => ?_ | refine Nat1.mk fun q_ hq_ => ?_ | refine em_ fun x_ hx_ => ?_ | refine Elem1.mk fun e_ he_ => ?_); refine g0_ ?_))
      (refine g1_ ?_; repeat ((first | refine n1_ fun b_ => ?_ | refine n2_ fun b_ => ?_ | refine Nat1.mk fun q_ hq_ => ?_ | refine em_ fun x_ hx_ => ?_ | refine Elem1.mk fun e_ he_ => ?_); refine g1_ ?_))
      refine ACalls.lend hi1 (r := []) (by simp) ?_
      rintro _ -
      (refine g1_ ?_; repeat ((first | refine n1_ fun b_ => ?_ | refine n2_ fun b_ => ?_ | refine Nat1.mk fun q_ hq_ => ?_ | refine em_ fun x_ hx_ => ?_ | refine Elem1.mk fun e_ he_ => ?_); refine g1_ ?_))
      refine nx_ (i + 1) ?_ ?_
      · exact ⟨by omega, hr⟩
      · ((try dsimp only); (try simp only [List.length_drop, List.length_take, List.length_append, List.length_cons, List.length_nil, List.length_map] at *); omega)
end Go.Eng.YtecafnhnkklboaaDoor
end

/- Keys that are commands: a key bound (b_ x_ q_ e_). -/
section
namespace Go.Eng.YtecafnhnkklboaaDoor
open Go Go.Eng Go.Proofs Go.Maps
variable (W : World)
set_option linter.unusedSimpArgs false
set_option maxRecDepth 100000
set_option linter.unusedVariables false
set_option maxHeartbeats 8000000
def accB (b n : Nat) : List PV → PV
  | [] => .nils
  | _ :: _ => .rsl b 5 0 n
theorem accB_self (b : Nat) (O : List PV) : accV b 5 O = accB b O.length O := by cases O <;> rfl
def accT (b n : Nat) (pre : Key) (O : List PV) : PV := .agg [.int .i64 pre.kind, .int .i32 pre.r, .int .i64 pre.n, .int .i64 pre.held, accB b n O]
theorem hasK_snoc {L : List Bnd} {i : Nat} {b : Bnd} (k : Key) (h : L[i]? = some b) : hasK (L.take (i + 1)) k = (hasK (L.take i) k || decide (b.k = k)) := by
  unfold hasK
  rw [take_snoc_of h, List.any_append]
  simp
theorem bindL_snoc {L : List Bnd} {i : Nat} {b : Bnd} (k : Key) (cmd : List UInt8) (h : L[i]? = some b) : bindL k cmd (L.take (i + 1)) = bindL k cmd (L.take i) ++ (if b.k ≠ k then [b] else if cmd ≠ [] then [⟨k, cmd⟩] else []) := by
  rw [take_snoc_of h, bindL_app, bindL, bindL, List.append_nil]
theorem frz_tab {σ : Mem} (b : Nat) {n : Nat} {pre : Key} {O : List PV} {L : List Bnd} (h : O = L.map encBnd) (hn : n = O.length) (hl : O ≠ [] → ∃ r, Look σ b (.row 5 O 0) r) : Frz σ (accT b n pre O) (encTab ⟨pre, L⟩) := by
  subst hn
  unfold accT
  rw [← accB_self]
  refine .agg _ _ rfl fun j hj => ?_
  match j, hj with
  | 0, _ => exact .refl _
  | 1, _ => exact .refl _
  | 2, _ => exact .refl _
  | 3, _ => exact .refl _
  | 4, _ => exact h ▸ frz_of_acc (b := b) (sz := 5) (l := O) hl
theorem bbind_ok (t : BTab) (hto : t.ok) (k : Key) (hk : k.ok) (cmd : List UInt8) (hcl : cmd.length ≤ 140737488355328) :
    Pure Tryd.prog W 20 [encTab t, .agg [.int .i64 k.kind, .int .i32 k.r, .int .i64 k.n, .int .i64 k.held], .str cmd] (.tup [encTab (bindE t k cmd).1, .int .i64 (bindE t k cmd).2]) := by
  have hck := bcheck_ok W t hto
  have hkc : Pure Tryd.prog W 39 [.agg [.int .i64 k.kind, .int .i32 k.r, .int .i64 k.n, .int .i64 k.held]] (.bool (decide (isKey k))) := kcheck_ok W k
  have hw := bwords_ok W cmd hcl
  by_cases h0 : checkT t = 0
  · rw [h0] at hck
    by_cases h1 : isKey k
    · rw [decide_eq_true h1] at hkc
      by_cases h2 : (wordsB cmd).2 = 0
      · have hE0 : bindE t k cmd = if cmd = [] ∨ hasK t.binds k = true then (⟨t.pre, bindL k cmd t.binds⟩, 0)
            else if (bindL k cmd t.binds).length = 20 then (noTab, 10) else (⟨t.pre, bindL k cmd t.binds ++ [⟨k, cmd⟩]⟩, 0) := by
          unfold bindE
          rw [if_neg (by simpa using h0), if_neg (by simpa using h1), if_neg (by simpa using h2)]
        have hnb : t.binds.length ≤ 20 := by
          unfold checkT at h0
          split at h0
          · cases h0
          · split at h0
            · cases h0
            · omega
        rw [h2] at hw
        generalize (wordsB cmd).1 = wl at *
        clear h0 h1 h2
        obtain ⟨pre, L⟩ := t
        obtain ⟨hp, hL, -⟩ := hto
        dsimp only at *
        have hbm : (L.map encBnd).length = L.length := List.length_map _
        generalize bindE ⟨pre, L⟩ k cmd = R at *
        unfold encTab at hck
        dsimp only at hck
        show Pure _ _ _ [.agg [.int .i64 pre.kind, .int .i32 pre.r, .int .i64 pre.n, .int .i64 pre.held, .sl 5 (L.map encBnd)], _, _] _
        refine Pure.of (acalls_of_vc (drawOk W) Tryd.func20 rfl (by decide) (by decide) rfl ?_)
        (refine g0_ ?_; repeat ((first | refine n1_ fun b_ => ?_ | refine n2_ fun b_ => ?_ | refine Nat1.mk fun q_ hq_ => ?_ | refine em_ fun x_ hx_ => ?_ | refine Elem1.mk fun e_ he_ => ?_); refine g0_ ?_))
        refine (hck).use ?_; (refine g0_ ?_; repeat ((first | refine n1_ fun b_ => ?_ | refine n2_ fun b_ => ?_ | refine Nat1.mk fun q_ hq_ => ?_ | refine em_ fun x_ hx_ => ?_ | refine Elem1.mk fun e_ he_ => ?_); refine g0_ ?_))
        (refine g1_ ?_; repeat ((first | refine n1_ fun b_ => ?_ | refine n2_ fun b_ => ?_ | refine Nat1.mk fun q_ hq_ => ?_ | refine em_ fun x_ hx_ => ?_ | refine Elem1.mk fun e_ he_ => ?_); refine g1_ ?_))
        refine (hkc).use ?_; (refine g0_ ?_; repeat ((first | refine n1_ fun b_ => ?_ | refine n2_ fun b_ => ?_ | refine Nat1.mk fun q_ hq_ => ?_ | refine em_ fun x_ hx_ => ?_ | refine Elem1.mk fun e_ he_ => ?_); refine g0_ ?_))
        (refine g1_ ?_; repeat ((first | refine n1_ fun b_ => ?_ | refine n2_ fun b_ => ?_ | refine Nat1.mk fun q_ hq_ => ?_ | refine em_ fun x_ hx_ => ?_ | refine Elem1.mk fun e_ he_ => ?_); refine g1_ ?_))
        refine (hw).use ?_; (refine g0_ ?_; repeat ((first | refine n1_ fun b_ => ?_ | refine n2_ fun b_ => ?_ | refine Nat1.mk fun q_ hq_ => ?_ | refine em_ fun x_ hx_ => ?_ | refine Elem1.mk fun e_ he_ => ?_); refine g0_ ?_))
        (refine g1_ ?_; repeat ((first | refine n1_ fun b_ => ?_ | refine n2_ fun b_ => ?_ | refine Nat1.mk fun q_ hq_ => ?_ | refine em_ fun x_ hx_ => ?_ | refine Elem1.mk fun e_ he_ => ?_); refine g1_ ?_))
        rename_i b3 b4 b6
        obtain ⟨bo, rfl⟩ : ∃ b1, b1 = b_ := ⟨_, rfl⟩
        refine' loopI (α := Nat × (List PV) × Nat × Nat × Bool) (fun (i, O, n, bb, d) => [(42, .int .i64 i), (12, .bool d)]) [(2, _), (4, _), (6, _), (11, _), (40, _), (41, _)] (fun (i, O, n, bb, d) => [⟨bo, .row 5 [accT bb n pre O] 0⟩, ⟨b6, .row 5 [.agg [.int .i64 0, .int .i32 0, .int .i64 0, .int .i64 0, .nils]] 0⟩, ⟨b4, .row 4 [.agg [.int .i64 k.kind, .int .i32 k.r, .int .i64 k.n, .int .i64 k.held]] 0⟩] ++ accM bb 5 O) (fun (i, O, n, bb, d) => i ≤ L.length ∧ O = (bindL k cmd (L.take i)).map encBnd ∧ d = (decide (cmd = []) || hasK (L.take i) k) ∧ n = O.length) (fun (i, O, n, bb, d) => L.length - i) (0, [], 0, 0, decide (cmd = [])) ?_ ?_
        · exact ⟨Nat.zero_le _, rfl, by simp [hasK], rfl⟩
        rintro ⟨i, O, n, bb, d⟩ ⟨hi, hO, hd, hn⟩
        have hOl : O.length ≤ 20 := by
          rw [hO, List.length_map]
          have := bindL_len k cmd (L.take i)
          have h5 := List.length_take_le i L
          have h6 : (L.take i).length ≤ L.length := by rw [List.length_take]; omega
          omega
        have hOa : O.all cellsB = true := by rw [hO]; exact bnds_all _
        by_cases h3 : i = L.length
        · subst h3
          rw [List.take_length] at hO hd
          rcases O with _ | ⟨o0, O⟩
          · have hnn := hn
            (try simp only [List.length_cons, List.length_nil] at hn)
            have hOH : Hide ([] = (bindL k cmd L).map encBnd) := ⟨hO⟩
            cases d
            · have hdd : cmd ≠ [] ∧ hasK L k = false := by
                have := hd.symm
                simp only [Bool.or_eq_false_iff, decide_eq_false_iff_not] at this
                exact this
              clear hd
              rw [if_neg (by rw [hdd.2]; simp [hdd.1])] at hE0
              have hbl : (bindL k cmd L).length = List.length ([] : List PV) := by rw [hO, List.length_map]
              have h20 : ¬ (bindL k cmd L).length = 20 := by rw [hbl]; decide
              rw [if_neg h20] at hE0
              subst hE0
              rw [hbl] at h20
              (try simp only [List.length_cons] at h20)
              have hO2 : [] ++ [PV.agg [.int .i64 k.kind, .int .i32 k.r, .int .i64 k.n, .int .i64 k.held, .str cmd]] = (bindL k cmd L ++ [(⟨k, cmd⟩ : Bnd)]).map encBnd := by rw [List.map_append, ← hO]; rfl
              replace hO2 := Hide.mk hO2
              clear hO hbl
              (refine g0_ ?_; repeat ((first | refine n1_ fun b_ => ?_ | refine n2_ fun b_ => ?_ | refine Nat1.mk fun q_ hq_ => ?_ | refine em_ fun x_ hx_ => ?_ | refine Elem1.mk fun e_ he_ => ?_); refine g0_ ?_))
              (refine g1_ ?_; repeat ((first | refine n1_ fun b_ => ?_ | refine n2_ fun b_ => ?_ | refine Nat1.mk fun q_ hq_ => ?_ | refine em_ fun x_ hx_ => ?_ | refine Elem1.mk fun e_ he_ => ?_); refine g1_ ?_))
              refine .inl ?_
              (refine g1_ ?_; repeat ((first | refine n1_ fun b_ => ?_ | refine n2_ fun b_ => ?_ | refine Nat1.mk fun q_ hq_ => ?_ | refine em_ fun x_ hx_ => ?_ | refine Elem1.mk fun e_ he_ => ?_); refine g1_ ?_))
              exact frz_tup2 (frz_tab b_ hO2.out (by simp only [List.length_append, List.length_cons, List.length_nil] <;> omega) fun _ => ⟨_, by repeat (first | exact .here _ _ _ | apply Look.there)⟩) (.refl _)
            · have hdd : cmd = [] ∨ hasK L k = true := by
                have := hd.symm
                simpa using this
              clear hd
              rw [if_pos hdd] at hE0
              subst hE0
              clear hO hdd
              (refine g0_ ?_; repeat ((first | refine n1_ fun b_ => ?_ | refine n2_ fun b_ => ?_ | refine Nat1.mk fun q_ hq_ => ?_ | refine em_ fun x_ hx_ => ?_ | refine Elem1.mk fun e_ he_ => ?_); refine g0_ ?_))
              (refine g1_ ?_; repeat ((first | refine n1_ fun b_ => ?_ | refine n2_ fun b_ => ?_ | refine Nat1.mk fun q_ hq_ => ?_ | refine em_ fun x_ hx_ => ?_ | refine Elem1.mk fun e_ he_ => ?_); refine g1_ ?_))
              exact frz_tup2 (frz_tab bb hOH.out hnn (fun h => absurd rfl h)) (.refl _)
          · simp only [List.length_cons] at hOl
            simp only [List.all_cons, Bool.and_eq_true] at hOa
            have hnn := hn
            (try simp only [List.length_cons, List.length_nil] at hn)
            have hOH : Hide ((o0 :: O) = (bindL k cmd L).map encBnd) := ⟨hO⟩
            cases d
            · have hdd : cmd ≠ [] ∧ hasK L k = false := by
                have := hd.symm
                simp only [Bool.or_eq_false_iff, decide_eq_false_iff_not] at this
                exact this
              clear hd
              rw [if_neg (by rw [hdd.2]; simp [hdd.1])] at hE0
              have hbl : (bindL k cmd L).length = List.length ((o0 :: O) : List PV) := by rw [hO, List.length_map]
              by_cases h20 : (bindL k cmd L).length = 20
              · rw [if_pos h20] at hE0
                subst hE0
                rw [hbl] at h20
                (try simp only [List.length_cons] at h20)
                clear hO hbl
                (refine g0_ ?_; repeat ((first | refine n1_ fun b_ => ?_ | refine n2_ fun b_ => ?_ | refine Nat1.mk fun q_ hq_ => ?_ | refine em_ fun x_ hx_ => ?_ | refine Elem1.mk fun e_ he_ => ?_); refine g0_ ?_))
                (refine g1_ ?_; repeat ((first | refine n1_ fun b_ => ?_ | refine n2_ fun b_ => ?_ | refine Nat1.mk fun q_ hq_ => ?_ | refine em_ fun x_ hx_ => ?_ | refine Elem1.mk fun e_ he_ => ?_); refine g1_ ?_))
                exact frz_tup2 (.agg _ _ rfl fun j hj => by
                  match j, hj with
                  | 0, _ => exact .refl _
                  | 1, _ => exact .refl _
                  | 2, _ => exact .refl _
                  | 3, _ => exact .refl _
                  | 4, _ => exact .nils _) (.refl _)
              · rw [if_neg h20] at hE0
                subst hE0
                rw [hbl] at h20
                (try simp only [List.length_cons] at h20)
                have hO2 : (o0 :: O) ++ [PV.agg [.int .i64 k.kind, .int .i32 k.r, .int .i64 k.n, .int .i64 k.held, .str cmd]] = (bindL k cmd L ++ [(⟨k, cmd⟩ : Bnd)]).map encBnd := by rw [List.map_append, ← hO]; rfl
                replace hO2 := Hide.mk hO2
                clear hO hbl
                (refine g0_ ?_; repeat ((first | refine n1_ fun b_ => ?_ | refine n2_ fun b_ => ?_ | refine Nat1.mk fun q_ hq_ => ?_ | refine em_ fun x_ hx_ => ?_ | refine Elem1.mk fun e_ he_ => ?_); refine g0_ ?_))
                (refine g1_ ?_; repeat ((first | refine n1_ fun b_ => ?_ | refine n2_ fun b_ => ?_ | refine Nat1.mk fun q_ hq_ => ?_ | refine em_ fun x_ hx_ => ?_ | refine Elem1.mk fun e_ he_ => ?_); refine g1_ ?_))
                refine .inl ?_
                (refine g1_ ?_; repeat ((first | refine n1_ fun b_ => ?_ | refine n2_ fun b_ => ?_ | refine Nat1.mk fun q_ hq_ => ?_ | refine em_ fun x_ hx_ => ?_ | refine Elem1.mk fun e_ he_ => ?_); refine g1_ ?_))
                exact frz_tup2 (frz_tab b_ hO2.out (by simp only [List.length_append, List.length_cons, List.length_nil] <;> omega) fun _ => ⟨_, by repeat (first | exact .here _ _ _ | apply Look.there)⟩) (.refl _)
            · have hdd : cmd = [] ∨ hasK L k = true := by
                have := hd.symm
                simpa using this
              clear hd
              rw [if_pos hdd] at hE0
              subst hE0
              clear hO hdd
              (refine g0_ ?_; repeat ((first | refine n1_ fun b_ => ?_ | refine n2_ fun b_ => ?_ | refine Nat1.mk fun q_ hq_ => ?_ | refine em_ fun x_ hx_ => ?_ | refine Elem1.mk fun e_ he_ => ?_); refine g0_ ?_))
              (refine g1_ ?_; repeat ((first | refine n1_ fun b_ => ?_ | refine n2_ fun b_ => ?_ | refine Nat1.mk fun q_ hq_ => ?_ | refine em_ fun x_ hx_ => ?_ | refine Elem1.mk fun e_ he_ => ?_); refine g1_ ?_))
              exact frz_tup2 (frz_tab bb hOH.out hnn (fun _ => ⟨_, by repeat (first | exact .here _ _ _ | apply Look.there)⟩)) (.refl _)
        · obtain ⟨b, hb⟩ : ∃ b, L[i]? = some b := ⟨L[i]'(by omega), List.getElem?_eq_getElem _⟩
          have hbo := hL b (List.mem_of_getElem? hb)
          have hE := neq_key b.k k hbo.1 hk
          have hs := hasK_snoc k hb
          have hO' := bindL_snoc k cmd hb
          rcases O with _ | ⟨o0, O⟩
          · (try simp only [List.length_cons, List.length_nil] at hn)
            by_cases h2 : b.k = k
            · rw [decide_eq_true h2, Bool.not_true] at hE
              rw [if_neg (by simpa using h2)] at hO'
              rw [decide_eq_true h2, Bool.or_true] at hs
              by_cases hc : cmd = []
              · rw [if_neg (by simpa using hc), List.append_nil] at hO'
                have hI : Hide ([] = (bindL k cmd (L.take (i + 1))).map encBnd ∧ d = (decide (cmd = []) || hasK (L.take (i + 1)) k)) := ⟨by rw [hO']; exact hO, by rw [hs, hd]; simp [hc]⟩
                clear h2 hO hO' hs hd
                (refine g0_ ?_; repeat ((first | refine n1_ fun b_ => ?_ | refine n2_ fun b_ => ?_ | refine Nat1.mk fun q_ hq_ => ?_ | refine em_ fun x_ hx_ => ?_ | refine Elem1.mk fun e_ he_ => ?_); refine g0_ ?_))
                (refine g1_ ?_; repeat ((first | refine n1_ fun b_ => ?_ | refine n2_ fun b_ => ?_ | refine Nat1.mk fun q_ hq_ => ?_ | refine em_ fun x_ hx_ => ?_ | refine Elem1.mk fun e_ he_ => ?_); refine g1_ ?_))
                refine ⟨_, hE _ _, ?_⟩
                (refine g1_ ?_; repeat ((first | refine n1_ fun b_ => ?_ | refine n2_ fun b_ => ?_ | refine Nat1.mk fun q_ hq_ => ?_ | refine em_ fun x_ hx_ => ?_ | refine Elem1.mk fun e_ he_ => ?_); refine g1_ ?_))
                refine nx_ (i + 1, [], n, bb, d) ?_ ?_
                · exact ⟨by omega, hI.out.1, hI.out.2, by (first | (simp only [List.length_append, List.length_cons, List.length_nil] at hn ⊢ <;> omega) | omega)⟩
                · ((try dsimp only); (try simp only [List.length_drop, List.length_take, List.length_append, List.length_cons, List.length_nil, List.length_map] at *); omega)
              · rw [if_pos hc] at hO'
                have hO2 : [] ++ [PV.agg [.int .i64 k.kind, .int .i32 k.r, .int .i64 k.n, .int .i64 k.held, .str cmd]] = (bindL k cmd (L.take (i + 1))).map encBnd := by rw [hO', List.map_append, ← hO]; rfl
                have hI : Hide ([] ++ [.agg [.int .i64 k.kind, .int .i32 k.r, .int .i64 k.n, .int .i64 k.held, .str cmd]] = (bindL k cmd (L.take (i + 1))).map encBnd ∧ true = (decide (cmd = []) || hasK (L.take (i + 1)) k)) := ⟨hO2, by rw [hs]; simp⟩
                clear h2 hO hO' hs hd hO2
                (refine g0_ ?_; repeat ((first | refine n1_ fun b_ => ?_ | refine n2_ fun b_ => ?_ | refine Nat1.mk fun q_ hq_ => ?_ | refine em_ fun x_ hx_ => ?_ | refine Elem1.mk fun e_ he_ => ?_); refine g0_ ?_))
                (refine g1_ ?_; repeat ((first | refine n1_ fun b_ => ?_ | refine n2_ fun b_ => ?_ | refine Nat1.mk fun q_ hq_ => ?_ | refine em_ fun x_ hx_ => ?_ | refine Elem1.mk fun e_ he_ => ?_); refine g1_ ?_))
                refine ⟨_, hE _ _, ?_⟩
                (refine g1_ ?_; repeat ((first | refine n1_ fun b_ => ?_ | refine n2_ fun b_ => ?_ | refine Nat1.mk fun q_ hq_ => ?_ | refine em_ fun x_ hx_ => ?_ | refine Elem1.mk fun e_ he_ => ?_); refine g1_ ?_))
                refine .inl ?_
                (refine g1_ ?_; repeat ((first | refine n1_ fun b_ => ?_ | refine n2_ fun b_ => ?_ | refine Nat1.mk fun q_ hq_ => ?_ | refine em_ fun x_ hx_ => ?_ | refine Elem1.mk fun e_ he_ => ?_); refine g1_ ?_))
                refine nx_ (i + 1, [] ++ [.agg [.int .i64 k.kind, .int .i32 k.r, .int .i64 k.n, .int .i64 k.held, .str cmd]], 1, b_, true) ?_ ?_
                · exact ⟨by omega, hI.out.1, hI.out.2, by (first | (simp only [List.length_append, List.length_cons, List.length_nil] at hn ⊢ <;> omega) | omega)⟩
                · ((try dsimp only); (try simp only [List.length_drop, List.length_take, List.length_append, List.length_cons, List.length_nil, List.length_map] at *); omega)
            · rw [decide_eq_false h2, Bool.not_false] at hE
              rw [if_pos h2] at hO'
              rw [decide_eq_false h2, Bool.or_false] at hs
              have hO2 : [] ++ [PV.agg [.int .i64 b.k.kind, .int .i32 b.k.r, .int .i64 b.k.n, .int .i64 b.k.held, .str b.cmd]] = (bindL k cmd (L.take (i + 1))).map encBnd := by rw [hO', List.map_append, ← hO]; rfl
              have hI : Hide ([] ++ [.agg [.int .i64 b.k.kind, .int .i32 b.k.r, .int .i64 b.k.n, .int .i64 b.k.held, .str b.cmd]] = (bindL k cmd (L.take (i + 1))).map encBnd ∧ d = (decide (cmd = []) || hasK (L.take (i + 1)) k)) := ⟨hO2, by rw [hs, hd]⟩
              clear h2 hO hO' hs hd hO2
              (refine g0_ ?_; repeat ((first | refine n1_ fun b_ => ?_ | refine n2_ fun b_ => ?_ | refine Nat1.mk fun q_ hq_ => ?_ | refine em_ fun x_ hx_ => ?_ | refine Elem1.mk fun e_ he_ => ?_); refine g0_ ?_))
              (refine g1_ ?_; repeat ((first | refine n1_ fun b_ => ?_ | refine n2_ fun b_ => ?_ | refine Nat1.mk fun q_ hq_ => ?_ | refine em_ fun x_ hx_ => ?_ | refine Elem1.mk fun e_ he_ => ?_); refine g1_ ?_))
              refine ⟨_, hE _ _, ?_⟩
              (refine g1_ ?_; repeat ((first | refine n1_ fun b_ => ?_ | refine n2_ fun b_ => ?_ | refine Nat1.mk fun q_ hq_ => ?_ | refine em_ fun x_ hx_ => ?_ | refine Elem1.mk fun e_ he_ => ?_); refine g1_ ?_))
              refine .inl ?_
              (refine g1_ ?_; repeat ((first | refine n1_ fun b_ => ?_ | refine n2_ fun b_ => ?_ | refine Nat1.mk fun q_ hq_ => ?_ | refine em_ fun x_ hx_ => ?_ | refine Elem1.mk fun e_ he_ => ?_); refine g1_ ?_))
              refine nx_ (i + 1, [] ++ [.agg [.int .i64 b.k.kind, .int .i32 b.k.r, .int .i64 b.k.n, .int .i64 b.k.held, .str b.cmd]], 1, b_, d) ?_ ?_
              · exact ⟨by omega, hI.out.1, hI.out.2, by (first | (simp only [List.length_append, List.length_cons, List.length_nil] at hn ⊢ <;> omega) | omega)⟩
              · ((try dsimp only); (try simp only [List.length_drop, List.length_take, List.length_append, List.length_cons, List.length_nil, List.length_map] at *); omega)
          · simp only [List.length_cons] at hOl
            simp only [List.all_cons, Bool.and_eq_true] at hOa
            (try simp only [List.length_cons, List.length_nil] at hn)
            by_cases h2 : b.k = k
            · rw [decide_eq_true h2, Bool.not_true] at hE
              rw [if_neg (by simpa using h2)] at hO'
              rw [decide_eq_true h2, Bool.or_true] at hs
              by_cases hc : cmd = []
              · rw [if_neg (by simpa using hc), List.append_nil] at hO'
                have hI : Hide ((o0 :: O) = (bindL k cmd (L.take (i + 1))).map encBnd ∧ d = (decide (cmd = []) || hasK (L.take (i + 1)) k)) := ⟨by rw [hO']; exact hO, by rw [hs, hd]; simp [hc]⟩
                clear h2 hO hO' hs hd
                (refine g0_ ?_; repeat ((first | refine n1_ fun b_ => ?_ | refine n2_ fun b_ => ?_ | refine Nat1.mk fun q_ hq_ => ?_ | refine em_ fun x_ hx_ => ?_ | refine Elem1.mk fun e_ he_ => ?_); refine g0_ ?_))
                (refine g1_ ?_; repeat ((first | refine n1_ fun b_ => ?_ | refine n2_ fun b_ => ?_ | refine Nat1.mk fun q_ hq_ => ?_ | refine em_ fun x_ hx_ => ?_ | refine Elem1.mk fun e_ he_ => ?_); refine g1_ ?_))
                refine ⟨_, hE _ _, ?_⟩
                (refine g1_ ?_; repeat ((first | refine n1_ fun b_ => ?_ | refine n2_ fun b_ => ?_ | refine Nat1.mk fun q_ hq_ => ?_ | refine em_ fun x_ hx_ => ?_ | refine Elem1.mk fun e_ he_ => ?_); refine g1_ ?_))
                refine nx_ (i + 1, (o0 :: O), n, bb, d) ?_ ?_
                · exact ⟨by omega, hI.out.1, hI.out.2, by (first | (simp only [List.length_append, List.length_cons, List.length_nil] at hn ⊢ <;> omega) | omega)⟩
                · ((try dsimp only); (try simp only [List.length_drop, List.length_take, List.length_append, List.length_cons, List.length_nil, List.length_map] at *); omega)
              · rw [if_pos hc] at hO'
                have hO2 : (o0 :: O) ++ [PV.agg [.int .i64 k.kind, .int .i32 k.r, .int .i64 k.n, .int .i64 k.held, .str cmd]] = (bindL k cmd (L.take (i + 1))).map encBnd := by rw [hO', List.map_append, ← hO]; rfl
                have hI : Hide ((o0 :: O) ++ [.agg [.int .i64 k.kind, .int .i32 k.r, .int .i64 k.n, .int .i64 k.held, .str cmd]] = (bindL k cmd (L.take (i + 1))).map encBnd ∧ true = (decide (cmd = []) || hasK (L.take (i + 1)) k)) := ⟨hO2, by rw [hs]; simp⟩
                clear h2 hO hO' hs hd hO2
                (refine g0_ ?_; repeat ((first | refine n1_ fun b_ => ?_ | refine n2_ fun b_ => ?_ | refine Nat1.mk fun q_ hq_ => ?_ | refine em_ fun x_ hx_ => ?_ | refine Elem1.mk fun e_ he_ => ?_); refine g0_ ?_))
                (refine g1_ ?_; repeat ((first | refine n1_ fun b_ => ?_ | refine n2_ fun b_ => ?_ | refine Nat1.mk fun q_ hq_ => ?_ | refine em_ fun x_ hx_ => ?_ | refine Elem1.mk fun e_ he_ => ?_); refine g1_ ?_))
                refine ⟨_, hE _ _, ?_⟩
                (refine g1_ ?_; repeat ((first | refine n1_ fun b_ => ?_ | refine n2_ fun b_ => ?_ | refine Nat1.mk fun q_ hq_ => ?_ | refine em_ fun x_ hx_ => ?_ | refine Elem1.mk fun e_ he_ => ?_); refine g1_ ?_))
                refine .inl ?_
                (refine g1_ ?_; repeat ((first | refine n1_ fun b_ => ?_ | refine n2_ fun b_ => ?_ | refine Nat1.mk fun q_ hq_ => ?_ | refine em_ fun x_ hx_ => ?_ | refine Elem1.mk fun e_ he_ => ?_); refine g1_ ?_))
                refine nx_ (i + 1, (o0 :: O) ++ [.agg [.int .i64 k.kind, .int .i32 k.r, .int .i64 k.n, .int .i64 k.held, .str cmd]], n + 1, b_, true) ?_ ?_
                · exact ⟨by omega, hI.out.1, hI.out.2, by (first | (simp only [List.length_append, List.length_cons, List.length_nil] at hn ⊢ <;> omega) | omega)⟩
                · ((try dsimp only); (try simp only [List.length_drop, List.length_take, List.length_append, List.length_cons, List.length_nil, List.length_map] at *); omega)
            · rw [decide_eq_false h2, Bool.not_false] at hE
              rw [if_pos h2] at hO'
              rw [decide_eq_false h2, Bool.or_false] at hs
              have hO2 : (o0 :: O) ++ [PV.agg [.int .i64 b.k.kind, .int .i32 b.k.r, .int .i64 b.k.n, .int .i64 b.k.held, .str b.cmd]] = (bindL k cmd (L.take (i + 1))).map encBnd := by rw [hO', List.map_append, ← hO]; rfl
              have hI : Hide ((o0 :: O) ++ [.agg [.int .i64 b.k.kind, .int .i32 b.k.r, .int .i64 b.k.n, .int .i64 b.k.held, .str b.cmd]] = (bindL k cmd (L.take (i + 1))).map encBnd ∧ d = (decide (cmd = []) || hasK (L.take (i + 1)) k)) := ⟨hO2, by rw [hs, hd]⟩
              clear h2 hO hO' hs hd hO2
              (refine g0_ ?_; repeat ((first | refine n1_ fun b_ => ?_ | refine n2_ fun b_ => ?_ | refine Nat1.mk fun q_ hq_ => ?_ | refine em_ fun x_ hx_ => ?_ | refine Elem1.mk fun e_ he_ => ?_); refine g0_ ?_))
              (refine g1_ ?_; repeat ((first | refine n1_ fun b_ => ?_ | refine n2_ fun b_ => ?_ | refine Nat1.mk fun q_ hq_ => ?_ | refine em_ fun x_ hx_ => ?_ | refine Elem1.mk fun e_ he_ => ?_); refine g1_ ?_))
              refine ⟨_, hE _ _, ?_⟩
              (refine g1_ ?_; repeat ((first | refine n1_ fun b_ => ?_ | refine n2_ fun b_ => ?_ | refine Nat1.mk fun q_ hq_ => ?_ | refine em_ fun x_ hx_ => ?_ | refine Elem1.mk fun e_ he_ => ?_); refine g1_ ?_))
              refine .inl ?_
              (refine g1_ ?_; repeat ((first | refine n1_ fun b_ => ?_ | refine n2_ fun b_ => ?_ | refine Nat1.mk fun q_ hq_ => ?_ | refine em_ fun x_ hx_ => ?_ | refine Elem1.mk fun e_ he_ => ?_); refine g1_ ?_))
              refine nx_ (i + 1, (o0 :: O) ++ [.agg [.int .i64 b.k.kind, .int .i32 b.k.r, .int .i64 b.k.n, .int .i64 b.k.held, .str b.cmd]], n + 1, b_, d) ?_ ?_
              · exact ⟨by omega, hI.out.1, hI.out.2, by (first | (simp only [List.length_append, List.length_cons, List.length_nil] at hn ⊢ <;> omega) | omega)⟩
              · ((try dsimp only); (try simp only [List.length_drop, List.length_take, List.length_append, List.length_cons, List.length_nil, List.length_map] at *); omega)
      · have e : bindE t k cmd = (noTab, (wordsB cmd).2) := by
          unfold bindE
          rw [if_neg (by simpa using h0), if_neg (by simpa using h1), if_pos h2]
        rw [e]
        generalize wordsB cmd = wb at *
        obtain ⟨wl, we⟩ := wb
        dsimp only at hw
        unfold encTab at hck ⊢
        (try dsimp only at hck ⊢)
        refine Pure.of (acalls_of_vc (drawOk W) Tryd.func20 rfl (by decide) (by decide) rfl ?_)
        (refine g0_ ?_; repeat ((first | refine n1_ fun b_ => ?_ | refine n2_ fun b_ => ?_ | refine Nat1.mk fun q_ hq_ => ?_ | refine em_ fun x_ hx_ => ?_ | refine Elem1.mk fun e_ he_ => ?_); refine g0_ ?_))
        refine (hck).use ?_; (refine g0_ ?_; repeat ((first | refine n1_ fun b_ => ?_ | refine n2_ fun b_ => ?_ | refine Nat1.mk fun q_ hq_ => ?_ | refine em_ fun x_ hx_ => ?_ | refine Elem1.mk fun e_ he_ => ?_); refine g0_ ?_))
        (refine g1_ ?_; repeat ((first | refine n1_ fun b_ => ?_ | refine n2_ fun b_ => ?_ | refine Nat1.mk fun q_ hq_ => ?_ | refine em_ fun x_ hx_ => ?_ | refine Elem1.mk fun e_ he_ => ?_); refine g1_ ?_))
        refine (hkc).use ?_; (refine g0_ ?_; repeat ((first | refine n1_ fun b_ => ?_ | refine n2_ fun b_ => ?_ | refine Nat1.mk fun q_ hq_ => ?_ | refine em_ fun x_ hx_ => ?_ | refine Elem1.mk fun e_ he_ => ?_); refine g0_ ?_))
        (refine g1_ ?_; repeat ((first | refine n1_ fun b_ => ?_ | refine n2_ fun b_ => ?_ | refine Nat1.mk fun q_ hq_ => ?_ | refine em_ fun x_ hx_ => ?_ | refine Elem1.mk fun e_ he_ => ?_); refine g1_ ?_))
        refine (hw).use ?_; (refine g0_ ?_; repeat ((first | refine n1_ fun b_ => ?_ | refine n2_ fun b_ => ?_ | refine Nat1.mk fun q_ hq_ => ?_ | refine em_ fun x_ hx_ => ?_ | refine Elem1.mk fun e_ he_ => ?_); refine g0_ ?_))
        (refine g1_ ?_; repeat ((first | refine n1_ fun b_ => ?_ | refine n2_ fun b_ => ?_ | refine Nat1.mk fun q_ hq_ => ?_ | refine em_ fun x_ hx_ => ?_ | refine Elem1.mk fun e_ he_ => ?_); refine g1_ ?_))
        exact frz_tup2 (.agg _ _ rfl fun j hj => by
          match j, hj with
          | 0, _ => exact .refl _
          | 1, _ => exact .refl _
          | 2, _ => exact .refl _
          | 3, _ => exact .refl _
          | 4, _ => exact .nils _) (.refl _)
    · rw [decide_eq_false h1] at hkc
      have e : bindE t k cmd = (noTab, 5) := by
        unfold bindE
        rw [if_neg (by simpa using h0), if_pos h1]
      rw [e]
      unfold encTab at hck ⊢
      (try dsimp only at hck ⊢)
      refine Pure.of (acalls_of_vc (drawOk W) Tryd.func20 rfl (by decide) (by decide) rfl ?_)
      (refine g0_ ?_; repeat ((first | refine n1_ fun b_ => ?_ | refine n2_ fun b_ => ?_ | refine Nat1.mk fun q_ hq_ => ?_ | refine em_ fun x_ hx_ => ?_ | refine Elem1.mk fun e_ he_ => ?_); refine g0_ ?_))
      refine (hck).use ?_; (refine g0_ ?_; repeat ((first | refine n1_ fun b_ => ?_ | refine n2_ fun b_ => ?_ | refine Nat1.mk fun q_ hq_ => ?_ | refine em_ fun x_ hx_ => ?_ | refine Elem1.mk fun e_ he_ => ?_); refine g0_ ?_))
      (refine g1_ ?_; repeat ((first | refine n1_ fun b_ => ?_ | refine n2_ fun b_ => ?_ | refine Nat1.mk fun q_ hq_ => ?_ | refine em_ fun x_ hx_ => ?_ | refine Elem1.mk fun e_ he_ => ?_); refine g1_ ?_))
      refine (hkc).use ?_; (refine g0_ ?_; repeat ((first | refine n1_ fun b_ => ?_ | refine n2_ fun b_ => ?_ | refine Nat1.mk fun q_ hq_ => ?_ | refine em_ fun x_ hx_ => ?_ | refine Elem1.mk fun e_ he_ => ?_); refine g0_ ?_))
      (refine g1_ ?_; repeat ((first | refine n1_ fun b_ => ?_ | refine n2_ fun b_ => ?_ | refine Nat1.mk fun q_ hq_ => ?_ | refine em_ fun x_ hx_ => ?_ | refine Elem1.mk fun e_ he_ => ?_); refine g1_ ?_))
      exact frz_tup2 (.agg _ _ rfl fun j hj => by
        match j, hj with
        | 0, _ => exact .refl _
        | 1, _ => exact .refl _
        | 2, _ => exact .refl _
        | 3, _ => exact .refl _
        | 4, _ => exact .nils _) (.refl _)
  · have e : bindE t k cmd = (noTab, checkT t) := by
      unfold bindE
      rw [if_pos h0]
    rw [e]
    generalize checkT t = E at *
    unfold encTab at hck ⊢
    (try dsimp only at hck ⊢)
    refine Pure.of (acalls_of_vc (drawOk W) Tryd.func20 rfl (by decide) (by decide) rfl ?_)
    (refine g0_ ?_; repeat ((first | refine n1_ fun b_ => ?_ | refine n2_ fun b_ => ?_ | refine Nat1.mk fun q_ hq_ => ?_ | refine em_ fun x_ hx_ => ?_ | refine Elem1.mk fun e_ he_ => ?_); refine g0_ ?_))
    refine (hck).use ?_; (refine g0_ ?_; repeat ((first | refine n1_ fun b_ => ?_ | refine n2_ fun b_ => ?_ | refine Nat1.mk fun q_ hq_ => ?_ | refine em_ fun x_ hx_ => ?_ | refine Elem1.mk fun e_ he_ => ?_); refine g0_ ?_))
    (refine g1_ ?_; repeat ((first | refine n1_ fun b_ => ?_ | refine n2_ fun b_ => ?_ | refine Nat1.mk fun q_ hq_ => ?_ | refine em_ fun x_ hx_ => ?_ | refine Elem1.mk fun e_ he_ => ?_); refine g1_ ?_))
    exact frz_tup2 (.agg _ _ rfl fun j hj => by
      match j, hj with
      | 0, _ => exact .refl _
      | 1, _ => exact .refl _
      | 2, _ => exact .refl _
      | 3, _ => exact .refl _
      | 4, _ => exact .nils _) (.refl _)
end Go.Eng.YtecafnhnkklboaaDoor
end
