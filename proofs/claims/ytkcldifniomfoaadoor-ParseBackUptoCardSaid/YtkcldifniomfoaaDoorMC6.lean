/- Texts put together: OpenV. -/
import Derived.Test.YtkcldifniomfoaaDoorMC1
import Derived.Test.YtkcldifniomfoaaDoorMQ10
/- Arguments, opened: states of the reader, events, with what the second form tells of them. -/
section
namespace Go.Proofs.YtkcldifniomfoaaDoor
open Go Go.Eng Go.Eng.YtkcldifniomfoaaDoor
set_option linter.unusedSimpArgs false
set_option linter.unusedVariables false
set_option maxRecDepth 100000
theorem opens_u8 {t : TypeId} (ht : Tryd.prog.underlying t = some (.int .u8)) : Opens UInt8 t (fun b => .int .u8 b.toNat) (fun _ => True) (fun _ => True) (fun _ => 1) := by
  refine ⟨fun enc W n cs x h => ?_⟩
  obtain ⟨a, h1, h2, h3, h4⟩ := (Opens.int ht).opens enc W n cs x h
  have hb : 0 ≤ a ∧ a ≤ 255 := by simpa [Lit.wf, IntKind.min, IntKind.max, IntKind.signed, IntKind.bits] using h1
  refine ⟨UInt8.ofNat a.toNat, trivial, ?_, fun _ => trivial, h4⟩
  have e : ((UInt8.ofNat a.toNat).toNat : Int) = a := by
    rw [UInt8.toNat_ofNat']; omega
  rw [e]; exact h2
def pstOk (s : PSt) : Prop := i64ok s.at_ ∧ ∀ n ∈ s.params, i64ok n
def pstFit (s : PSt) : Prop := s.middle.length ≤ 140737488351232 ∧ s.params.length * 8 ≤ 140737488351232 ∧ s.text.length ≤ 140737488351232 ∧ s.left.length ≤ 140737488351232
def pevOk (e : PEv) : Prop := i64ok e.kind ∧ i32ok e.r ∧ ∀ n ∈ e.params, i64ok n
def pevFit (e : PEv) : Prop := e.middle.length ≤ 140737488351232 ∧ e.params.length * 8 ≤ 140737488351232 ∧ e.text.length ≤ 140737488351232
theorem opens_state : Opens PSt 24 encSt pstOk pstFit (fun _ => 1) := by
  refine ⟨fun enc W n cs x h => ?_⟩
  obtain ⟨xs, m, rfl, rfl, hl, hlen, hx⟩ := DataW.trod_struct (show Tryd.prog.underlying 24 = _ from Tryd.underlying24) h
  have hc0 : Tryd.prog.cellsOf 3 = 1 := by kernel_rfl
  have hc1 : Tryd.prog.cellsOf 5 = 1 := by kernel_rfl
  have hc2 : Tryd.prog.cellsOf 9 = 1 := by kernel_rfl
  have hc3 : Tryd.prog.cellsOf 22 = 1 := by kernel_rfl
  have hc4 : Tryd.prog.cellsOf 4 = 1 := by kernel_rfl
  have hcs : Tryd.prog.cellsOf 24 = 7 := by kernel_rfl
  obtain ⟨y0, y1, y2, y3, y4, y5, y6, rfl⟩ : ∃ y0 y1 y2 y3 y4 y5 y6, xs = [y0, y1, y2, y3, y4, y5, y6] := by
    match xs, hlen with
    | [v0, v1, v2, v3, v4, v5, v6], _ => exact ⟨v0, v1, v2, v3, v4, v5, v6, rfl⟩
  have t0 : DataW.trod enc Tryd.prog W 0 (fun _ => true) true m 3 ((cs.drop 0).take (Tryd.prog.cellsOf 3)) = some y0 := hx 0 _ rfl
  have t1 : DataW.trod enc Tryd.prog W 0 (fun _ => true) true m 5 ((cs.drop 1).take (Tryd.prog.cellsOf 5)) = some y1 := hx 1 _ rfl
  have t2 : DataW.trod enc Tryd.prog W 0 (fun _ => true) true m 9 ((cs.drop 2).take (Tryd.prog.cellsOf 9)) = some y2 := hx 2 _ rfl
  have t3 : DataW.trod enc Tryd.prog W 0 (fun _ => true) true m 22 ((cs.drop 3).take (Tryd.prog.cellsOf 22)) = some y3 := hx 3 _ rfl
  have t4 : DataW.trod enc Tryd.prog W 0 (fun _ => true) true m 9 ((cs.drop 4).take (Tryd.prog.cellsOf 9)) = some y4 := hx 4 _ rfl
  have t5 : DataW.trod enc Tryd.prog W 0 (fun _ => true) true m 9 ((cs.drop 5).take (Tryd.prog.cellsOf 9)) = some y5 := hx 5 _ rfl
  have t6 : DataW.trod enc Tryd.prog W 0 (fun _ => true) true m 4 ((cs.drop 6).take (Tryd.prog.cellsOf 4)) = some y6 := hx 6 _ rfl
  obtain ⟨a0, o0, l0, f0, k0⟩ := (opens_int64 (t := 3) (by kernel_rfl)).opens enc W m _ _ t0
  obtain ⟨a1, o1, l1, f1, k1⟩ := (opens_u8 (t := 5) (by kernel_rfl)).opens enc W m _ _ t1
  obtain ⟨a2, o2, l2, f2, k2⟩ := (Opens.str (t := 9) (by kernel_rfl)).opens enc W m _ _ t2
  obtain ⟨a3, o3, l3, f3, k3⟩ := opens_ints.opens enc W m _ _ t3
  obtain ⟨a4, o4, l4, f4, k4⟩ := (Opens.str (t := 9) (by kernel_rfl)).opens enc W m _ _ t4
  obtain ⟨a5, o5, l5, f5, k5⟩ := (Opens.str (t := 9) (by kernel_rfl)).opens enc W m _ _ t5
  obtain ⟨a6, o6, l6, f6, k6⟩ := (Opens.bool (t := 4) (by kernel_rfl)).opens enc W m _ _ t6
  rw [hc0] at l0
  rw [hc1] at l1
  rw [hc2] at l2
  rw [hc3] at l3
  rw [hc2] at l4
  rw [hc2] at l5
  rw [hc4] at l6
  refine ⟨⟨a0, a1, a2, a3, a4, a5, a6⟩, ⟨o0, o3⟩, ?_, fun hf => ?_, ?_⟩
  · exact LRel.next (off := 0) (m := 1) l0 rfl (LRel.next (m := 2) l1 rfl (LRel.next (m := 3) l2 rfl (LRel.next (m := 4) l3 rfl (LRel.next (m := 5) l4 rfl (LRel.next (m := 6) l5 rfl (LRel.next (m := 7) l6 rfl (LRel.fin (hl.trans hcs))))))))
  · simp only [List.map_cons, List.map_nil, DataW.weights, Tryd.underlying24] at hf
    simp only [DataW.weightsEach, List.all_append, Bool.and_eq_true] at hf
    exact ⟨(f2 (hf.2.2.1)), (f3 (hf.2.2.2.1)).1, (f4 (hf.2.2.2.2.1)), (f5 (hf.2.2.2.2.2.1))⟩
  · simp only [Rows.uptoBulk, Rows.uptoBulkAll, List.map_cons, List.map_nil]; (try dsimp only at *); omega
theorem opens_event : Opens PEv 33 encEv pevOk pevFit (fun e => e.middle.length + (e.params.map fun _ => 1).sum + e.text.length + 1) := by
  refine ⟨fun enc W n cs x h => ?_⟩
  obtain ⟨xs, m, rfl, rfl, hl, hlen, hx⟩ := DataW.trod_struct (show Tryd.prog.underlying 33 = _ from Tryd.underlying33) h
  have hc0 : Tryd.prog.cellsOf 3 = 1 := by kernel_rfl
  have hc1 : Tryd.prog.cellsOf 21 = 1 := by kernel_rfl
  have hc2 : Tryd.prog.cellsOf 5 = 1 := by kernel_rfl
  have hc3 : Tryd.prog.cellsOf 9 = 1 := by kernel_rfl
  have hc4 : Tryd.prog.cellsOf 22 = 1 := by kernel_rfl
  have hcs : Tryd.prog.cellsOf 33 = 7 := by kernel_rfl
  obtain ⟨y0, y1, y2, y3, y4, y5, y6, rfl⟩ : ∃ y0 y1 y2 y3 y4 y5 y6, xs = [y0, y1, y2, y3, y4, y5, y6] := by
    match xs, hlen with
    | [v0, v1, v2, v3, v4, v5, v6], _ => exact ⟨v0, v1, v2, v3, v4, v5, v6, rfl⟩
  have t0 : DataW.trod enc Tryd.prog W 0 (fun _ => true) true m 3 ((cs.drop 0).take (Tryd.prog.cellsOf 3)) = some y0 := hx 0 _ rfl
  have t1 : DataW.trod enc Tryd.prog W 0 (fun _ => true) true m 21 ((cs.drop 1).take (Tryd.prog.cellsOf 21)) = some y1 := hx 1 _ rfl
  have t2 : DataW.trod enc Tryd.prog W 0 (fun _ => true) true m 5 ((cs.drop 2).take (Tryd.prog.cellsOf 5)) = some y2 := hx 2 _ rfl
  have t3 : DataW.trod enc Tryd.prog W 0 (fun _ => true) true m 5 ((cs.drop 3).take (Tryd.prog.cellsOf 5)) = some y3 := hx 3 _ rfl
  have t4 : DataW.trod enc Tryd.prog W 0 (fun _ => true) true m 9 ((cs.drop 4).take (Tryd.prog.cellsOf 9)) = some y4 := hx 4 _ rfl
  have t5 : DataW.trod enc Tryd.prog W 0 (fun _ => true) true m 22 ((cs.drop 5).take (Tryd.prog.cellsOf 22)) = some y5 := hx 5 _ rfl
  have t6 : DataW.trod enc Tryd.prog W 0 (fun _ => true) true m 9 ((cs.drop 6).take (Tryd.prog.cellsOf 9)) = some y6 := hx 6 _ rfl
  obtain ⟨a0, o0, l0, f0, k0⟩ := (opens_int64 (t := 3) (by kernel_rfl)).opens enc W m _ _ t0
  obtain ⟨a1, o1, l1, f1, k1⟩ := (opens_int32 (t := 21) (by kernel_rfl)).opens enc W m _ _ t1
  obtain ⟨a2, o2, l2, f2, k2⟩ := (opens_u8 (t := 5) (by kernel_rfl)).opens enc W m _ _ t2
  obtain ⟨a3, o3, l3, f3, k3⟩ := (opens_u8 (t := 5) (by kernel_rfl)).opens enc W m _ _ t3
  obtain ⟨a4, o4, l4, f4, k4⟩ := (Opens.str (t := 9) (by kernel_rfl)).opens enc W m _ _ t4
  obtain ⟨a5, o5, l5, f5, k5⟩ := opens_ints.opens enc W m _ _ t5
  obtain ⟨a6, o6, l6, f6, k6⟩ := (Opens.str (t := 9) (by kernel_rfl)).opens enc W m _ _ t6
  rw [hc0] at l0
  rw [hc1] at l1
  rw [hc2] at l2
  rw [hc2] at l3
  rw [hc3] at l4
  rw [hc4] at l5
  rw [hc3] at l6
  refine ⟨⟨a0, a1, a2, a3, a4, a5, a6⟩, ⟨o0, o1, o5⟩, ?_, fun hf => ?_, ?_⟩
  · exact LRel.next (off := 0) (m := 1) l0 rfl (LRel.next (m := 2) l1 rfl (LRel.next (m := 3) l2 rfl (LRel.next (m := 4) l3 rfl (LRel.next (m := 5) l4 rfl (LRel.next (m := 6) l5 rfl (LRel.next (m := 7) l6 rfl (LRel.fin (hl.trans hcs))))))))
  · simp only [List.map_cons, List.map_nil, DataW.weights, Tryd.underlying33] at hf
    simp only [DataW.weightsEach, List.all_append, Bool.and_eq_true] at hf
    exact ⟨(f4 (hf.2.2.2.2.1)), (f5 (hf.2.2.2.2.2.1)).1, (f6 (hf.2.2.2.2.2.2.1))⟩
  · simp only [Rows.uptoBulk, Rows.uptoBulkAll, List.map_cons, List.map_nil]; (try dsimp only at *); omega
theorem pst_fair {s : PSt} (h : pstOk s) (f : pstFit s) : s.fair := by
  obtain ⟨h1, h2⟩ := h
  obtain ⟨f1, f2, f3, f4⟩ := f
  exact ⟨by omega, by omega, by omega, by omega, h2, h1.1, h1.2⟩
theorem opens_events : Opens (List PEv) 25 encEvs (fun l => ∀ e ∈ l, pevOk e) (fun l => l.length * 72 ≤ 140737488351232 ∧ ∀ e ∈ l, pevFit e) (fun l => (l.map fun e => e.middle.length + (e.params.map fun _ => 1).sum + e.text.length + 1).sum + 1) :=
  Opens.slice (show Tryd.prog.underlying 25 = _ by kernel_rfl) (by kernel_rfl : Tryd.prog.cellsOf 33 = 7) (by decide) (by kernel_rfl) opens_event (fun _ => rfl)
theorem events_bulk : ∀ (l : List PEv), l.length ≤ (l.map fun e => e.middle.length + (e.params.map fun _ => 1).sum + e.text.length + 1).sum ∧
    ∀ e ∈ l, e.middle.length + e.params.length + e.text.length ≤ (l.map fun e => e.middle.length + (e.params.map fun _ => 1).sum + e.text.length + 1).sum
  | [] => ⟨Nat.le_refl _, fun e he => by cases he⟩
  | x :: l => by
    obtain ⟨h1, h2⟩ := events_bulk l
    have hx : (x.params.map fun _ => 1).sum = x.params.length := sum_ones _
    rw [List.map_cons, List.sum_cons, List.length_cons]
    refine ⟨by omega, fun e he => ?_⟩
    rcases List.mem_cons.1 he with rfl | he
    · omega
    · have := h2 e he; omega
theorem events_few {l : List PEv} (h : ∀ e ∈ l, pevOk e) (k : (l.map fun e => e.middle.length + (e.params.map fun _ => 1).sum + e.text.length + 1).sum + 1 ≤ 1048576) : l.length ≤ 1048576 ∧ ∀ e ∈ l, e.few := by
  obtain ⟨h1, h2⟩ := events_bulk l
  refine ⟨by omega, fun e he => ?_⟩
  have hb := h2 e he
  obtain ⟨g1, g2, g3⟩ := h e he
  exact ⟨by omega, by omega, by omega, g3, g1, g2⟩
end Go.Proofs.YtkcldifniomfoaaDoor
end
