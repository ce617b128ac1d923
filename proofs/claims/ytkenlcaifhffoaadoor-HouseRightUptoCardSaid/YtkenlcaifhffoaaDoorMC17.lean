/- Texts put together: OpenHs, Trod6. -/
import Derived.Test.YtkenlcaifhffoaaDoorMC8
import Derived.Test.YtkenlcaifhffoaaDoorMHS1
import Derived.Test.YtkenlcaifhffoaaDoorMC1
/- Arguments, opened: houses, with what the second form tells of them. -/
section
namespace Go.Proofs.YtkenlcaifhffoaaDoor
open Go Go.Eng Go.Eng.YtkenlcaifhffoaaDoor
set_option linter.unusedSimpArgs false
set_option linter.unusedVariables false
set_option maxRecDepth 100000
def winOk (x : Win) : Prop := i64ok x.act ∧ i64ok x.bef
def winFit (x : Win) : Prop := x.name.length ≤ 140737488351232 ∧ x.s.ok
def sesOk (x : Ses) : Prop := (∀ w ∈ x.wins, winOk w) ∧ i64ok x.act ∧ i64ok x.bef
def sesFit (x : Ses) : Prop := x.name.length ≤ 140737488351232 ∧ x.wins.length * 88 ≤ 140737488351232 ∧ ∀ w ∈ x.wins, winFit w
def hsOk (x : Hs) : Prop := (∀ s ∈ x.ses, sesOk s) ∧ (∀ v ∈ x.views, v.ok) ∧ i64ok x.next
def hsFit (x : Hs) : Prop := (x.ses.length * 56 ≤ 140737488351232 ∧ ∀ s ∈ x.ses, sesFit s) ∧ (x.views.length * 24 ≤ 140737488351232 ∧ ∀ v ∈ x.views, True)
theorem opens_viewer : Opens Vw 84 encVw Vw.ok (fun _ => True) (fun _ => 1) := by
  refine ⟨fun enc W n cs x h => ?_⟩
  obtain ⟨xs, m, rfl, rfl, hl, hlen, hx⟩ := DataW.trod_struct (show Tryd.prog.underlying 84 = _ from Tryd.underlying84) h
  have hc0 : Tryd.prog.cellsOf 3 = 1 := by kernel_rfl
  have hcs : Tryd.prog.cellsOf 84 = 3 := by kernel_rfl
  obtain ⟨y0, y1, y2, rfl⟩ : ∃ y0 y1 y2, xs = [y0, y1, y2] := by
    match xs, hlen with
    | [v0, v1, v2], _ => exact ⟨v0, v1, v2, rfl⟩
  have t0 : DataW.trod enc Tryd.prog W 0 (fun _ => true) true m 3 ((cs.drop 0).take (Tryd.prog.cellsOf 3)) = some y0 := hx 0 _ rfl
  have t1 : DataW.trod enc Tryd.prog W 0 (fun _ => true) true m 3 ((cs.drop 1).take (Tryd.prog.cellsOf 3)) = some y1 := hx 1 _ rfl
  have t2 : DataW.trod enc Tryd.prog W 0 (fun _ => true) true m 3 ((cs.drop 2).take (Tryd.prog.cellsOf 3)) = some y2 := hx 2 _ rfl
  obtain ⟨a0, o0, l0, f0, k0⟩ := (opens_int64 (t := 3) (by kernel_rfl)).opens enc W m _ _ t0
  obtain ⟨a1, o1, l1, f1, k1⟩ := (opens_int64 (t := 3) (by kernel_rfl)).opens enc W m _ _ t1
  obtain ⟨a2, o2, l2, f2, k2⟩ := (opens_int64 (t := 3) (by kernel_rfl)).opens enc W m _ _ t2
  rw [hc0] at l0
  rw [hc0] at l1
  rw [hc0] at l2
  refine ⟨⟨a0, a1, a2⟩, ⟨o0, o1, o2⟩, ?_, fun hf => ?_, ?_⟩
  · exact LRel.next (off := 0) (m := 1) l0 rfl (LRel.next (m := 2) l1 rfl (LRel.next (m := 3) l2 rfl (LRel.fin (hl.trans hcs))))
  · simp only [List.map_cons, List.map_nil, DataW.weights, Tryd.underlying84] at hf
    simp only [DataW.weightsEach, List.all_append, Bool.and_eq_true] at hf
    exact trivial
  · simp only [Rows.uptoBulk, Rows.uptoBulkAll, List.map_cons, List.map_nil]; (try dsimp only at *); omega
theorem opens_viewers : Opens (List Vw) 23 (fun l => .sl 3 (l.map encVw)) (fun l => ∀ x ∈ l, Vw.ok x) (fun l => l.length * 24 ≤ 140737488351232 ∧ ∀ x ∈ l, True) (fun l => (l.map fun x => 1).sum + 1) :=
  Opens.slice (show Tryd.prog.underlying 23 = _ by kernel_rfl) (by kernel_rfl : Tryd.prog.cellsOf 84 = 3) (by decide) (by kernel_rfl) opens_viewer (fun _ => rfl)
theorem opens_window : Opens Win 66 encWin winOk winFit (fun x => x.name.length + 1) := by
  refine ⟨fun enc W n cs x h => ?_⟩
  obtain ⟨xs, m, rfl, rfl, hl, hlen, hx⟩ := DataW.trod_struct (show Tryd.prog.underlying 66 = _ from Tryd.underlying66) h
  have hc0 : Tryd.prog.cellsOf 9 = 1 := by kernel_rfl
  have hc1 : Tryd.prog.cellsOf 64 = 4 := by kernel_rfl
  have hc2 : Tryd.prog.cellsOf 3 = 1 := by kernel_rfl
  have hc3 : Tryd.prog.cellsOf 4 = 1 := by kernel_rfl
  have hcs : Tryd.prog.cellsOf 66 = 8 := by kernel_rfl
  obtain ⟨y0, y1, y2, y3, y4, rfl⟩ : ∃ y0 y1 y2 y3 y4, xs = [y0, y1, y2, y3, y4] := by
    match xs, hlen with
    | [v0, v1, v2, v3, v4], _ => exact ⟨v0, v1, v2, v3, v4, rfl⟩
  have t0 : DataW.trod enc Tryd.prog W 0 (fun _ => true) true m 9 ((cs.drop 0).take (Tryd.prog.cellsOf 9)) = some y0 := hx 0 _ rfl
  have t1 : DataW.trod enc Tryd.prog W 0 (fun _ => true) true m 64 ((cs.drop 1).take (Tryd.prog.cellsOf 64)) = some y1 := hx 1 _ rfl
  have t2 : DataW.trod enc Tryd.prog W 0 (fun _ => true) true m 3 ((cs.drop 5).take (Tryd.prog.cellsOf 3)) = some y2 := hx 2 _ rfl
  have t3 : DataW.trod enc Tryd.prog W 0 (fun _ => true) true m 3 ((cs.drop 6).take (Tryd.prog.cellsOf 3)) = some y3 := hx 3 _ rfl
  have t4 : DataW.trod enc Tryd.prog W 0 (fun _ => true) true m 4 ((cs.drop 7).take (Tryd.prog.cellsOf 4)) = some y4 := hx 4 _ rfl
  obtain ⟨a0, o0, l0, f0, k0⟩ := (Opens.str (t := 9) (by kernel_rfl)).opens enc W m _ _ t0
  obtain ⟨a1, o1, l1, f1, k1⟩ := opens_split.opens enc W m _ _ t1
  obtain ⟨a2, o2, l2, f2, k2⟩ := (opens_int64 (t := 3) (by kernel_rfl)).opens enc W m _ _ t2
  obtain ⟨a3, o3, l3, f3, k3⟩ := (opens_int64 (t := 3) (by kernel_rfl)).opens enc W m _ _ t3
  obtain ⟨a4, o4, l4, f4, k4⟩ := (Opens.bool (t := 4) (by kernel_rfl)).opens enc W m _ _ t4
  rw [hc0] at l0
  rw [hc1] at l1
  rw [hc2] at l2
  rw [hc2] at l3
  rw [hc3] at l4
  rw [encSpl_eta] at l1
  refine ⟨⟨a0, a1, a2, a3, a4⟩, ⟨o2, o3⟩, ?_, fun hf => ?_, ?_⟩
  · exact LRel.next (off := 0) (m := 1) l0 rfl (LRel.next (m := 5) l1 rfl (LRel.next (m := 6) l2 rfl (LRel.next (m := 7) l3 rfl (LRel.next (m := 8) l4 rfl (LRel.fin (hl.trans hcs))))))
  · simp only [List.map_cons, List.map_nil, DataW.weights, Tryd.underlying66] at hf
    simp only [DataW.weightsEach, List.all_append, Bool.and_eq_true] at hf
    exact ⟨(f0 (hf.1)), (f1 (hf.2.1))⟩
  · simp only [Rows.uptoBulk, Rows.uptoBulkAll, List.map_cons, List.map_nil]; (try dsimp only at *); omega
theorem opens_windows : Opens (List Win) 71 (fun l => .sl 8 (l.map encWin)) (fun l => ∀ x ∈ l, winOk x) (fun l => l.length * 88 ≤ 140737488351232 ∧ ∀ x ∈ l, winFit x) (fun l => (l.map fun x => x.name.length + 1).sum + 1) :=
  Opens.slice (show Tryd.prog.underlying 71 = _ by kernel_rfl) (by kernel_rfl : Tryd.prog.cellsOf 66 = 8) (by decide) (by kernel_rfl) opens_window (fun _ => rfl)
theorem opens_session : Opens Ses 73 encSes sesOk sesFit (fun x => x.name.length + (x.wins.map fun x => x.name.length + 1).sum + 1) := by
  refine ⟨fun enc W n cs x h => ?_⟩
  obtain ⟨xs, m, rfl, rfl, hl, hlen, hx⟩ := DataW.trod_struct (show Tryd.prog.underlying 73 = _ from Tryd.underlying73) h
  have hc0 : Tryd.prog.cellsOf 9 = 1 := by kernel_rfl
  have hc1 : Tryd.prog.cellsOf 71 = 1 := by kernel_rfl
  have hc2 : Tryd.prog.cellsOf 3 = 1 := by kernel_rfl
  have hcs : Tryd.prog.cellsOf 73 = 4 := by kernel_rfl
  obtain ⟨y0, y1, y2, y3, rfl⟩ : ∃ y0 y1 y2 y3, xs = [y0, y1, y2, y3] := by
    match xs, hlen with
    | [v0, v1, v2, v3], _ => exact ⟨v0, v1, v2, v3, rfl⟩
  have t0 : DataW.trod enc Tryd.prog W 0 (fun _ => true) true m 9 ((cs.drop 0).take (Tryd.prog.cellsOf 9)) = some y0 := hx 0 _ rfl
  have t1 : DataW.trod enc Tryd.prog W 0 (fun _ => true) true m 71 ((cs.drop 1).take (Tryd.prog.cellsOf 71)) = some y1 := hx 1 _ rfl
  have t2 : DataW.trod enc Tryd.prog W 0 (fun _ => true) true m 3 ((cs.drop 2).take (Tryd.prog.cellsOf 3)) = some y2 := hx 2 _ rfl
  have t3 : DataW.trod enc Tryd.prog W 0 (fun _ => true) true m 3 ((cs.drop 3).take (Tryd.prog.cellsOf 3)) = some y3 := hx 3 _ rfl
  obtain ⟨a0, o0, l0, f0, k0⟩ := (Opens.str (t := 9) (by kernel_rfl)).opens enc W m _ _ t0
  obtain ⟨a1, o1, l1, f1, k1⟩ := opens_windows.opens enc W m _ _ t1
  obtain ⟨a2, o2, l2, f2, k2⟩ := (opens_int64 (t := 3) (by kernel_rfl)).opens enc W m _ _ t2
  obtain ⟨a3, o3, l3, f3, k3⟩ := (opens_int64 (t := 3) (by kernel_rfl)).opens enc W m _ _ t3
  rw [hc0] at l0
  rw [hc1] at l1
  rw [hc2] at l2
  rw [hc2] at l3
  refine ⟨⟨a0, a1, a2, a3⟩, ⟨o1, o2, o3⟩, ?_, fun hf => ?_, ?_⟩
  · exact LRel.next (off := 0) (m := 1) l0 rfl (LRel.next (m := 2) l1 rfl (LRel.next (m := 3) l2 rfl (LRel.next (m := 4) l3 rfl (LRel.fin (hl.trans hcs)))))
  · simp only [List.map_cons, List.map_nil, DataW.weights, Tryd.underlying73] at hf
    simp only [DataW.weightsEach, List.all_append, Bool.and_eq_true] at hf
    exact ⟨(f0 (hf.1)), (f1 (hf.2.1))⟩
  · simp only [Rows.uptoBulk, Rows.uptoBulkAll, List.map_cons, List.map_nil]; (try dsimp only at *); omega
theorem opens_sessions : Opens (List Ses) 22 (fun l => .sl 4 (l.map encSes)) (fun l => ∀ x ∈ l, sesOk x) (fun l => l.length * 56 ≤ 140737488351232 ∧ ∀ x ∈ l, sesFit x) (fun l => (l.map fun x => x.name.length + (x.wins.map fun x => x.name.length + 1).sum + 1).sum + 1) :=
  Opens.slice (show Tryd.prog.underlying 22 = _ by kernel_rfl) (by kernel_rfl : Tryd.prog.cellsOf 73 = 4) (by decide) (by kernel_rfl) opens_session (fun _ => rfl)
theorem opens_house : Opens Hs 25 encHs hsOk hsFit (fun x => (x.ses.map fun x => x.name.length + (x.wins.map fun x => x.name.length + 1).sum + 1).sum + (x.views.map fun _ => 1).sum + 1) := by
  refine ⟨fun enc W n cs x h => ?_⟩
  obtain ⟨xs, m, rfl, rfl, hl, hlen, hx⟩ := DataW.trod_struct (show Tryd.prog.underlying 25 = _ from Tryd.underlying25) h
  have hc0 : Tryd.prog.cellsOf 22 = 1 := by kernel_rfl
  have hc1 : Tryd.prog.cellsOf 23 = 1 := by kernel_rfl
  have hc2 : Tryd.prog.cellsOf 3 = 1 := by kernel_rfl
  have hcs : Tryd.prog.cellsOf 25 = 3 := by kernel_rfl
  obtain ⟨y0, y1, y2, rfl⟩ : ∃ y0 y1 y2, xs = [y0, y1, y2] := by
    match xs, hlen with
    | [v0, v1, v2], _ => exact ⟨v0, v1, v2, rfl⟩
  have t0 : DataW.trod enc Tryd.prog W 0 (fun _ => true) true m 22 ((cs.drop 0).take (Tryd.prog.cellsOf 22)) = some y0 := hx 0 _ rfl
  have t1 : DataW.trod enc Tryd.prog W 0 (fun _ => true) true m 23 ((cs.drop 1).take (Tryd.prog.cellsOf 23)) = some y1 := hx 1 _ rfl
  have t2 : DataW.trod enc Tryd.prog W 0 (fun _ => true) true m 3 ((cs.drop 2).take (Tryd.prog.cellsOf 3)) = some y2 := hx 2 _ rfl
  obtain ⟨a0, o0, l0, f0, k0⟩ := opens_sessions.opens enc W m _ _ t0
  obtain ⟨a1, o1, l1, f1, k1⟩ := opens_viewers.opens enc W m _ _ t1
  obtain ⟨a2, o2, l2, f2, k2⟩ := (opens_int64 (t := 3) (by kernel_rfl)).opens enc W m _ _ t2
  rw [hc0] at l0
  rw [hc1] at l1
  rw [hc2] at l2
  refine ⟨⟨a0, a1, a2⟩, ⟨o0, o1, o2⟩, ?_, fun hf => ?_, ?_⟩
  · exact LRel.next (off := 0) (m := 1) l0 rfl (LRel.next (m := 2) l1 rfl (LRel.next (m := 3) l2 rfl (LRel.fin (hl.trans hcs))))
  · simp only [List.map_cons, List.map_nil, DataW.weights, Tryd.underlying25] at hf
    simp only [DataW.weightsEach, List.all_append, Bool.and_eq_true] at hf
    exact ⟨(f0 (hf.1)), (f1 (hf.2.1))⟩
  · simp only [Rows.uptoBulk, Rows.uptoBulkAll, List.map_cons, List.map_nil]; (try dsimp only at *); omega
theorem sum_each {α : Type} (f : α → Nat) : ∀ (l : List α), (∀ x ∈ l, 1 ≤ f x) → l.length ≤ (l.map f).sum ∧ ∀ x ∈ l, f x ≤ (l.map f).sum
  | [], _ => ⟨Nat.le_refl _, fun e he => by cases he⟩
  | x :: l, h => by
    obtain ⟨h1, h2⟩ := sum_each f l fun y hy => h y (List.mem_cons_of_mem _ hy)
    have hx := h x List.mem_cons_self
    rw [List.map_cons, List.sum_cons, List.length_cons]
    refine ⟨by omega, fun e he => ?_⟩
    rcases List.mem_cons.1 he with rfl | he
    · omega
    · have := h2 e he; omega
theorem hs_ok {h : Hs} (b : hsOk h) (f : hsFit h) (k : (h.ses.map fun x => x.name.length + (x.wins.map fun x => x.name.length + 1).sum + 1).sum + (h.views.map fun _ => 1).sum + 1 ≤ 1048576) : h.ok := by
  obtain ⟨b1, b2, b3⟩ := b
  obtain ⟨⟨f1, f2⟩, f3, _⟩ := f
  obtain ⟨s1, s2⟩ := sum_each (fun x : Ses => x.name.length + (x.wins.map fun x => x.name.length + 1).sum + 1) h.ses fun x hx => by (try dsimp only); omega
  obtain ⟨v1, _⟩ := sum_each (fun _ : Vw => 1) h.views fun x hx => by (try dsimp only); omega
  refine ⟨by omega, fun s hs => ?_, by omega, b2, b3⟩
  have hb := s2 s hs
  (try dsimp only at hb)
  obtain ⟨w1, w2⟩ := sum_each (fun x : Win => x.name.length + 1) s.wins fun x hx => by (try dsimp only); omega
  obtain ⟨c1, c2, c3⟩ := b1 s hs
  obtain ⟨g1, g2, g3⟩ := f2 s hs
  refine ⟨by omega, by omega, fun w hw => ?_, c2, c3⟩
  have hb2 := w2 w hw
  (try dsimp only at hb2)
  exact ⟨by omega, (g3 w hw).2, (c1 w hw).1, (c1 w hw).2⟩
end Go.Proofs.YtkenlcaifhffoaaDoor
end

/- Six arguments, told apart. -/
section
namespace Go.Proofs.YtkenlcaifhffoaaDoor
open Go Go.Eng Go.Eng.YtkenlcaifhffoaaDoor
set_option linter.unusedSimpArgs false
set_option linter.unusedVariables false
theorem trodAll_six {H : Type} {enc : TypeId × Value → H} {P : Program} {w : World} {base : Nat} {spare : Nat → Bool} {held : Bool} {t0 t1 t2 t3 t4 t5 : TypeId} {args : Array Value} {ds : List (DataW H)} {ps : List MemPlace} (h : DataW.TrodAll enc P w base spare held [t0, t1, t2, t3, t4, t5] args.toList ds ps) :
    ∃ v0 v1 v2 v3 v4 v5 d0 d1 d2 d3 d4 d5 p0 p1 p2 p3 p4 p5, args = #[v0, v1, v2, v3, v4, v5] ∧ ds = [d0, d1, d2, d3, d4, d5] ∧ ps = p0 ++ p1 ++ p2 ++ p3 ++ p4 ++ p5 ∧ DataW.Trod enc P w base spare held t0 v0 d0 p0 ∧ DataW.Trod enc P w base spare held t1 v1 d1 p1 ∧ DataW.Trod enc P w base spare held t2 v2 d2 p2 ∧ DataW.Trod enc P w base spare held t3 v3 d3 p3 ∧ DataW.Trod enc P w base spare held t4 v4 d4 p4 ∧ DataW.Trod enc P w base spare held t5 v5 d5 p5 := by
  obtain ⟨v0, vs0, d0, ds0, p0, q0, hargs, rfl, rfl, hd0, h0⟩ := ChangeShapes.trodAll_cons h
  obtain ⟨v1, vs1, d1, ds1, p1, q1, rfl, rfl, rfl, hd1, h1⟩ := ChangeShapes.trodAll_cons h0
  obtain ⟨v2, vs2, d2, ds2, p2, q2, rfl, rfl, rfl, hd2, h2⟩ := ChangeShapes.trodAll_cons h1
  obtain ⟨v3, vs3, d3, ds3, p3, q3, rfl, rfl, rfl, hd3, h3⟩ := ChangeShapes.trodAll_cons h2
  obtain ⟨v4, vs4, d4, ds4, p4, q4, rfl, rfl, rfl, hd4, h4⟩ := ChangeShapes.trodAll_cons h3
  obtain ⟨v5, vs5, d5, ds5, p5, q5, rfl, rfl, rfl, hd5, h5⟩ := ChangeShapes.trodAll_cons h4
  obtain ⟨rfl, rfl, rfl⟩ := ChangeShapes.trodAll_nil h5
  exact ⟨v0, v1, v2, v3, v4, v5, d0, d1, d2, d3, d4, d5, p0, p1, p2, p3, p4, p5, by cases args; simp_all, rfl, by simp, hd0, hd1, hd2, hd3, hd4, hd5⟩
end Go.Proofs.YtkenlcaifhffoaaDoor
end
