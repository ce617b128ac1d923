/- Texts put together: OpenP. -/
import Derived.Test.YtjkdkofpabocmaaDoorMC1
import Derived.Test.YtjkdkofpabocmaaDoorMW1
/- Arguments, opened: screens. -/
section
namespace Go.Proofs.YtjkdkofpabocmaaDoor
open Go Go.Eng Go.Eng.YtjkdkofpabocmaaDoor
set_option linter.unusedSimpArgs false
set_option linter.unusedVariables false
set_option maxRecDepth 100000
structure KeptS where
  x : Int
  y : Int
  s : Style
  m : Int
def encKeptS (k : KeptS) : PV := .agg [.int .i64 k.x, .int .i64 k.y, .int .i64 k.s.fore, .int .i64 k.s.back, .int .i64 k.s.bits, .int .i64 k.m]
def keptOk (k : KeptS) : Prop := i64ok k.x ∧ i64ok k.y ∧ k.s.ok ∧ i64ok k.m
theorem opens_bools : Opens (List Bool) 47 (fun l => .sl 1 (l.map PV.bool)) (fun l => ∀ c ∈ l, True) (fun l => l.length * 1 ≤ 140737488351232 ∧ ∀ c ∈ l, True) (fun l => (l.map fun _ => 1).sum + 1) :=
  Opens.slice (show Tryd.prog.underlying 47 = _ by kernel_rfl) (by kernel_rfl : Tryd.prog.cellsOf 4 = 1) (by decide) (by kernel_rfl) (Opens.bool (t := 4) (by kernel_rfl)) (fun _ => rfl)
theorem opens_rows : Opens (List (List Cell)) 50 (fun l => .sl 1 (l.map encRow)) (fun l => ∀ r ∈ l, ∀ c ∈ r, Eng.YtjkdkofpabocmaaDoor.Cell.ok c) (fun l => l.length * 24 ≤ 140737488351232 ∧ ∀ r ∈ l, (r.length * 32 ≤ 140737488351232 ∧ ∀ c ∈ r, True)) (fun l => (l.map fun r => (r.map fun _ => 1).sum + 1).sum + 1) :=
  Opens.slice (show Tryd.prog.underlying 50 = _ by kernel_rfl) (by kernel_rfl : Tryd.prog.cellsOf 27 = 1) (by decide) (by kernel_rfl) opens_cells (fun _ => rfl)
theorem opens_kept : Opens KeptS 49 encKeptS keptOk (fun _ => True) (fun _ => 1) := by
  refine ⟨fun enc W n cs x h => ?_⟩
  obtain ⟨xs, m, rfl, rfl, hl, hlen, hx⟩ := DataW.trod_struct (show Tryd.prog.underlying 49 = _ from Tryd.underlying49) h
  have hc0 : Tryd.prog.cellsOf 3 = 1 := by kernel_rfl
  have hc1 : Tryd.prog.cellsOf 46 = 3 := by kernel_rfl
  have hcs : Tryd.prog.cellsOf 49 = 6 := by kernel_rfl
  obtain ⟨y0, y1, y2, y3, rfl⟩ : ∃ y0 y1 y2 y3, xs = [y0, y1, y2, y3] := by
    match xs, hlen with
    | [v0, v1, v2, v3], _ => exact ⟨v0, v1, v2, v3, rfl⟩
  have t0 : DataW.trod enc Tryd.prog W 0 (fun _ => true) true m 3 ((cs.drop 0).take (Tryd.prog.cellsOf 3)) = some y0 := hx 0 _ rfl
  have t1 : DataW.trod enc Tryd.prog W 0 (fun _ => true) true m 3 ((cs.drop 1).take (Tryd.prog.cellsOf 3)) = some y1 := hx 1 _ rfl
  have t2 : DataW.trod enc Tryd.prog W 0 (fun _ => true) true m 46 ((cs.drop 2).take (Tryd.prog.cellsOf 46)) = some y2 := hx 2 _ rfl
  have t3 : DataW.trod enc Tryd.prog W 0 (fun _ => true) true m 3 ((cs.drop 5).take (Tryd.prog.cellsOf 3)) = some y3 := hx 3 _ rfl
  obtain ⟨a0, o0, l0, f0, k0⟩ := (opens_int64 (t := 3) (by kernel_rfl)).opens enc W m _ _ t0
  obtain ⟨a1, o1, l1, f1, k1⟩ := (opens_int64 (t := 3) (by kernel_rfl)).opens enc W m _ _ t1
  obtain ⟨a2, o2, l2, f2, k2⟩ := opens_style.opens enc W m _ _ t2
  obtain ⟨a3, o3, l3, f3, k3⟩ := (opens_int64 (t := 3) (by kernel_rfl)).opens enc W m _ _ t3
  rw [hc0] at l0
  rw [hc0] at l1
  rw [hc1] at l2
  rw [hc0] at l3
  refine ⟨⟨a0, a1, a2, a3⟩, ⟨o0, o1, o2, o3⟩, ?_, fun hf => ?_, ?_⟩
  · exact LRel.next (off := 0) (m := 1) l0 rfl (LRel.next (m := 2) l1 rfl (LRel.next (m := 5) l2 rfl (LRel.next (m := 6) l3 rfl (LRel.fin (hl.trans hcs)))))
  · simp only [List.map_cons, List.map_nil, DataW.weights, Tryd.underlying49] at hf
    simp only [DataW.weightsEach, List.all_append, Bool.and_eq_true] at hf
    trivial
  · simp only [Rows.uptoBulk, Rows.uptoBulkAll, List.map_cons, List.map_nil]; (try dsimp only at *); omega
def scrOk (s : Scr) : Prop := gridOk s.g ∧ i64ok s.x ∧ i64ok s.y ∧ s.look.ok ∧ i64ok s.top ∧ i64ok s.bottom ∧ i64ok s.modes ∧ (i64ok s.kx ∧ i64ok s.ky ∧ s.ks.ok ∧ i64ok s.km) ∧ i32ok s.last ∧ ∀ r ∈ s.gone, ∀ c ∈ r, Eng.YtjkdkofpabocmaaDoor.Cell.ok c
def scrFit (s : Scr) : Prop := s.g.cs.length * 32 ≤ 140737488351232 ∧ s.tabs.length * 1 ≤ 140737488351232 ∧ s.gone.length * 24 ≤ 140737488351232 ∧ ∀ r ∈ s.gone, r.length * 32 ≤ 140737488351232
theorem opens_screen : Opens Scr 52 encScr scrOk scrFit (fun s => s.title.length) := by
  refine ⟨fun enc W n cs x h => ?_⟩
  obtain ⟨xs, m, rfl, rfl, hl, hlen, hx⟩ := DataW.trod_struct (show Tryd.prog.underlying 52 = _ from Tryd.underlying52) h
  have hc0 : Tryd.prog.cellsOf 29 = 3 := by kernel_rfl
  have hc1 : Tryd.prog.cellsOf 3 = 1 := by kernel_rfl
  have hc2 : Tryd.prog.cellsOf 4 = 1 := by kernel_rfl
  have hc3 : Tryd.prog.cellsOf 46 = 3 := by kernel_rfl
  have hc4 : Tryd.prog.cellsOf 47 = 1 := by kernel_rfl
  have hc5 : Tryd.prog.cellsOf 49 = 6 := by kernel_rfl
  have hc6 : Tryd.prog.cellsOf 21 = 1 := by kernel_rfl
  have hc7 : Tryd.prog.cellsOf 9 = 1 := by kernel_rfl
  have hc8 : Tryd.prog.cellsOf 50 = 1 := by kernel_rfl
  have hcs : Tryd.prog.cellsOf 52 = 22 := by kernel_rfl
  obtain ⟨y0, y1, y2, y3, y4, y5, y6, y7, y8, y9, y10, y11, y12, rfl⟩ : ∃ y0 y1 y2 y3 y4 y5 y6 y7 y8 y9 y10 y11 y12, xs = [y0, y1, y2, y3, y4, y5, y6, y7, y8, y9, y10, y11, y12] := by
    match xs, hlen with
    | [v0, v1, v2, v3, v4, v5, v6, v7, v8, v9, v10, v11, v12], _ => exact ⟨v0, v1, v2, v3, v4, v5, v6, v7, v8, v9, v10, v11, v12, rfl⟩
  have t0 : DataW.trod enc Tryd.prog W 0 (fun _ => true) true m 29 ((cs.drop 0).take (Tryd.prog.cellsOf 29)) = some y0 := hx 0 _ rfl
  have t1 : DataW.trod enc Tryd.prog W 0 (fun _ => true) true m 3 ((cs.drop 3).take (Tryd.prog.cellsOf 3)) = some y1 := hx 1 _ rfl
  have t2 : DataW.trod enc Tryd.prog W 0 (fun _ => true) true m 3 ((cs.drop 4).take (Tryd.prog.cellsOf 3)) = some y2 := hx 2 _ rfl
  have t3 : DataW.trod enc Tryd.prog W 0 (fun _ => true) true m 4 ((cs.drop 5).take (Tryd.prog.cellsOf 4)) = some y3 := hx 3 _ rfl
  have t4 : DataW.trod enc Tryd.prog W 0 (fun _ => true) true m 46 ((cs.drop 6).take (Tryd.prog.cellsOf 46)) = some y4 := hx 4 _ rfl
  have t5 : DataW.trod enc Tryd.prog W 0 (fun _ => true) true m 3 ((cs.drop 9).take (Tryd.prog.cellsOf 3)) = some y5 := hx 5 _ rfl
  have t6 : DataW.trod enc Tryd.prog W 0 (fun _ => true) true m 3 ((cs.drop 10).take (Tryd.prog.cellsOf 3)) = some y6 := hx 6 _ rfl
  have t7 : DataW.trod enc Tryd.prog W 0 (fun _ => true) true m 3 ((cs.drop 11).take (Tryd.prog.cellsOf 3)) = some y7 := hx 7 _ rfl
  have t8 : DataW.trod enc Tryd.prog W 0 (fun _ => true) true m 47 ((cs.drop 12).take (Tryd.prog.cellsOf 47)) = some y8 := hx 8 _ rfl
  have t9 : DataW.trod enc Tryd.prog W 0 (fun _ => true) true m 49 ((cs.drop 13).take (Tryd.prog.cellsOf 49)) = some y9 := hx 9 _ rfl
  have t10 : DataW.trod enc Tryd.prog W 0 (fun _ => true) true m 21 ((cs.drop 19).take (Tryd.prog.cellsOf 21)) = some y10 := hx 10 _ rfl
  have t11 : DataW.trod enc Tryd.prog W 0 (fun _ => true) true m 9 ((cs.drop 20).take (Tryd.prog.cellsOf 9)) = some y11 := hx 11 _ rfl
  have t12 : DataW.trod enc Tryd.prog W 0 (fun _ => true) true m 50 ((cs.drop 21).take (Tryd.prog.cellsOf 50)) = some y12 := hx 12 _ rfl
  obtain ⟨a0, o0, l0, f0, k0⟩ := opens_grid.opens enc W m _ _ t0
  obtain ⟨a1, o1, l1, f1, k1⟩ := (opens_int64 (t := 3) (by kernel_rfl)).opens enc W m _ _ t1
  obtain ⟨a2, o2, l2, f2, k2⟩ := (opens_int64 (t := 3) (by kernel_rfl)).opens enc W m _ _ t2
  obtain ⟨a3, o3, l3, f3, k3⟩ := (Opens.bool (t := 4) (by kernel_rfl)).opens enc W m _ _ t3
  obtain ⟨a4, o4, l4, f4, k4⟩ := opens_style.opens enc W m _ _ t4
  obtain ⟨a5, o5, l5, f5, k5⟩ := (opens_int64 (t := 3) (by kernel_rfl)).opens enc W m _ _ t5
  obtain ⟨a6, o6, l6, f6, k6⟩ := (opens_int64 (t := 3) (by kernel_rfl)).opens enc W m _ _ t6
  obtain ⟨a7, o7, l7, f7, k7⟩ := (opens_int64 (t := 3) (by kernel_rfl)).opens enc W m _ _ t7
  obtain ⟨a8, o8, l8, f8, k8⟩ := opens_bools.opens enc W m _ _ t8
  obtain ⟨a9, o9, l9, f9, k9⟩ := opens_kept.opens enc W m _ _ t9
  obtain ⟨a10, o10, l10, f10, k10⟩ := (opens_int32 (t := 21) (by kernel_rfl)).opens enc W m _ _ t10
  obtain ⟨a11, o11, l11, f11, k11⟩ := (Opens.str (t := 9) (by kernel_rfl)).opens enc W m _ _ t11
  obtain ⟨a12, o12, l12, f12, k12⟩ := opens_rows.opens enc W m _ _ t12
  rw [hc0] at l0
  rw [hc1] at l1
  rw [hc1] at l2
  rw [hc2] at l3
  rw [hc3] at l4
  rw [hc1] at l5
  rw [hc1] at l6
  rw [hc1] at l7
  rw [hc4] at l8
  rw [hc5] at l9
  rw [hc6] at l10
  rw [hc7] at l11
  rw [hc8] at l12
  refine ⟨⟨a0, a1, a2, a3, a4, a5, a6, a7, a8, a9.x, a9.y, a9.s, a9.m, a10, a11, a12⟩, ⟨o0, o1, o2, o4, o5, o6, o7, o9, o10, o12⟩, ?_, fun hf => ?_, ?_⟩
  · exact LRel.next (off := 0) (m := 3) l0 rfl (LRel.next (m := 4) l1 rfl (LRel.next (m := 5) l2 rfl (LRel.next (m := 6) l3 rfl (LRel.next (m := 9) l4 rfl (LRel.next (m := 10) l5 rfl (LRel.next (m := 11) l6 rfl (LRel.next (m := 12) l7 rfl (LRel.next (m := 13) l8 rfl (LRel.next (m := 19) l9 rfl (LRel.next (m := 20) l10 rfl (LRel.next (m := 21) l11 rfl (LRel.next (m := 22) l12 rfl (LRel.fin (hl.trans hcs))))))))))))))
  · simp only [List.map_cons, List.map_nil, DataW.weights, Tryd.underlying52] at hf
    simp only [DataW.weightsEach, List.all_append, Bool.and_eq_true] at hf
    exact ⟨f0 (hf.1), (f8 (hf.2.2.2.2.2.2.2.2.1)).1, (f12 (hf.2.2.2.2.2.2.2.2.2.2.2.2.1)).1, fun r hr => ((f12 (hf.2.2.2.2.2.2.2.2.2.2.2.2.1)).2 r hr).1⟩
  · simp only [Rows.uptoBulk, Rows.uptoBulkAll, List.map_cons, List.map_nil]; (try dsimp only at *); omega
theorem scr_ok {s : Scr} (h : scrOk s) (f : scrFit s) (k : s.title.length ≤ 1048576) : s.ok := by
  obtain ⟨h1, h2, h3, h4, h5, h6, h7, ⟨h8, h9, h10, h11⟩, h12, h13⟩ := h
  obtain ⟨f1, f2, f3, f4⟩ := f
  exact ⟨grid_ok h1 f1, h2, h3, h4, h5, h6, h7, by omega, h8, h9, h10, h11, h12, k, by omega, fun r hr => ⟨by have := f4 r hr; omega, h13 r hr⟩⟩
end Go.Proofs.YtjkdkofpabocmaaDoor
end
