/- Texts put together: Hs11, Hs12. -/
import Derived.Test.YtkenlcaifhffoaaDoorMHS13
import Derived.Test.YtkenlcaifhffoaaDoorMHS3
/- Houses: a pane picked, a pane zoomed (b_ x_ q_ e_). -/
section
namespace Go.Eng.YtkenlcaifhffoaaDoor
open Go Go.Eng Go.Proofs
variable (W : World)
set_option linter.unusedSimpArgs false
set_option maxRecDepth 100000
set_option linter.unusedVariables false
set_option maxHeartbeats 8000000
def pickW (p : Int) (w : Win) : Win := if w.act = p then w else ⟨w.name, w.s, p, w.act, false⟩
def zoomW (p : Int) (w : Win) : Win := ⟨w.name, w.s, p, if w.act = p then w.bef else w.act, !(w.zoom && decide (w.act = p))⟩
def onW (f : Win → Win) (h : Hs) (pane : Int) : Hs := match posS h.ses pane with
  | none => h
  | some (i, k) => match winAt h.ses i k with
    | none => h
    | some w => ⟨setW h.ses i k (f w), h.views, h.next⟩
def onE (h : Hs) (pane : Int) : Int := if posS h.ses pane = none then 6 else 0
theorem perm_oneP {A B : Blk} {M : Mem} : (A :: (M ++ [B])).Perm (A :: B :: M) := List.Perm.cons A (List.perm_append_comm (l₁ := M) (l₂ := [B]))
end Go.Eng.YtkenlcaifhffoaaDoor
end

/- Houses: where a pane is, in the document; Activate (b_ x_ q_ e_). -/
section
namespace Go.Eng.YtkenlcaifhffoaaDoor
open Go Go.Eng Go.Proofs
variable (W : World)
set_option linter.unusedSimpArgs false
set_option maxRecDepth 100000
set_option linter.unusedVariables false
set_option maxHeartbeats 8000000
def whereI (h : Hs) (pane : Int) : Int × Int := match posS h.ses pane with
  | none => (-1, -1)
  | some (i, k) => (i, k)
theorem whereR_ok (h : Hs) (hok : h.ok) (h0 : chkH h = 0) (pane : Int) : Pure Tryd.prog W 38 [encHs h, .int .i64 pane] (.tup [.int .i64 (whereI h pane).1, .int .i64 (whereI h pane).2]) := by
  have hsr := right_win h0
  have hsl := hok.ses
  have hm1 : (h.ses.map encSes).length = h.ses.length := List.length_map _
  unfold whereI
  cases hps : posS h.ses pane with
  | none =>
    have hnn := posS_none hps
    dsimp only
    rw [encHs_mk h] at *
    refine Pure.of (acalls_of_vc (DL_ok (by decide)) Tryd.func38 rfl (by decide) (by decide) rfl ?_)
    (refine g0_ ?_; repeat (refine n1_ fun b_ => ?_; refine g0_ ?_))
    obtain ⟨bH, rfl⟩ : ∃ z, z = b_ := ⟨_, rfl⟩
    refine' loopI (α := Nat) (fun i => [(15, .int .i64 i)]) [(1, _), (13, _), (14, _)] (fun i => [⟨bH, .row 3 [.agg [.sl 4 (h.ses.map encSes), .sl 3 (h.views.map encVw), .int .i64 h.next]] 0⟩]) (fun i => i ≤ h.ses.length) (fun i => h.ses.length - i) 0 ?_ ?_
    · exact Nat.zero_le _
    rintro i hi
    by_cases hie : i = h.ses.length
    · subst hie
      refine g0_ ?_
      refine g1_ ?_
      exact .refl _
    · have hil : i < h.ses.length := by omega
      obtain ⟨x, hx⟩ : ∃ x, h.ses[i]? = some x := ⟨_, List.getElem?_eq_getElem hil⟩
      have hxm := List.mem_of_getElem? hx
      have hxo := hok.se x hxm
      have hxr := hsr x hxm
      have hwm : (x.wins.map encWin).length = x.wins.length := List.length_map _
      have hxw := hxo.wins
      refine g0_ ?_
      (refine g1_ ?_; repeat (refine n1_ fun b_ => ?_; refine g1_ ?_))
      obtain ⟨bx, rfl⟩ : ∃ z, z = b_ := ⟨_, rfl⟩
      refine' loopI (α := Nat) (fun k => [(23, .int .i64 k)]) [(1, _), (6, _), (13, _), (14, _), (15, _), (21, _), (22, _)] (fun k => [⟨bx, .row 4 [.agg [.str x.name, .sl 8 (x.wins.map encWin), .int .i64 x.act, .int .i64 x.bef]] 0⟩, ⟨bH, .row 3 [.agg [.sl 4 (h.ses.map encSes), .sl 3 (h.views.map encVw), .int .i64 h.next]] 0⟩]) (fun k => k ≤ x.wins.length) (fun k => x.wins.length - k) 0 ?_ ?_
      · exact Nat.zero_le _
      rintro k hk
      by_cases hke : k = x.wins.length
      · subst hke
        refine g0_ ?_
        refine g1_ ?_
        refine nx_ (i + 1) ?_ ?_
        · exact hil
        · ((try dsimp only); (try simp only [List.length_drop, List.length_take, List.length_append, List.length_cons, List.length_nil, List.length_map] at *); omega)
      · have hkl : k < x.wins.length := by omega
        obtain ⟨y, hy⟩ : ∃ y, x.wins[k]? = some y := ⟨_, List.getElem?_eq_getElem hkl⟩
        have hym := List.mem_of_getElem? hy
        have hpn := checkR_ok W y.s (hxo.win y hym).s
        have hyw := (hxr.win y hym)
        have hyt := winT_of hyw
        have hyv := hyw.vis
        rw [chk_eq] at hyv
        rw [chk_panes hyv, hyv, encSpl_eta] at hpn
        have hct := containsI_ok W (panesT y.s) pane (by have := hyt.2; omega)
        rw [decide_eq_false (hnn x hxm y hym)] at hct
        rw [show (panesT y.s).map (PV.int .i64) = panesV (panesT y.s) from rfl] at hct
        refine g0_ ?_
        (refine g1_ ?_; repeat (refine n1_ fun b_ => ?_; refine g1_ ?_))
        refine (hpn).use ?_; refine g0_ ?_
        refine g1_ ?_
        refine (hct).use ?_; refine g0_ ?_
        refine g1_ ?_
        refine nx_ (k + 1) ?_ ?_
        · exact hkl
        · ((try dsimp only); (try simp only [List.length_drop, List.length_take, List.length_append, List.length_cons, List.length_nil, List.length_map] at *); omega)
  | some y =>
    obtain ⟨i0, k0⟩ := y
    obtain ⟨x0, w0, hx0, hw0, hp, hb1, hb2⟩ := posS_some hps
    have hi0 := lt_of_at hx0
    have hk0 := lt_of_at hw0
    dsimp only
    rw [encHs_mk h] at *
    refine Pure.of (acalls_of_vc (DL_ok (by decide)) Tryd.func38 rfl (by decide) (by decide) rfl ?_)
    (refine g0_ ?_; repeat (refine n1_ fun b_ => ?_; refine g0_ ?_))
    obtain ⟨bH, rfl⟩ : ∃ z, z = b_ := ⟨_, rfl⟩
    refine' loopI (α := Nat) (fun i => [(15, .int .i64 i)]) [(1, _), (13, _), (14, _)] (fun i => [⟨bH, .row 3 [.agg [.sl 4 (h.ses.map encSes), .sl 3 (h.views.map encVw), .int .i64 h.next]] 0⟩]) (fun i => i ≤ i0) (fun i => i0 - i) 0 ?_ ?_
    · exact Nat.zero_le _
    rintro i hi
    by_cases hie : i = i0
    · subst hie
      have hil := hi0
      obtain ⟨x, hx⟩ : ∃ x, h.ses[i]? = some x := ⟨_, List.getElem?_eq_getElem hil⟩
      have hxm := List.mem_of_getElem? hx
      have hxo := hok.se x hxm
      have hxr := hsr x hxm
      have hwm : (x.wins.map encWin).length = x.wins.length := List.length_map _
      have hxw := hxo.wins
      obtain rfl : x = x0 := Option.some.inj (hx.symm.trans hx0)
      refine g0_ ?_
      (refine g1_ ?_; repeat (refine n1_ fun b_ => ?_; refine g1_ ?_))
      obtain ⟨bx, rfl⟩ : ∃ z, z = b_ := ⟨_, rfl⟩
      refine' loopI (α := Nat) (fun k => [(23, .int .i64 k)]) [(1, _), (6, _), (13, _), (14, _), (15, _), (21, _), (22, _)] (fun k => [⟨bx, .row 4 [.agg [.str x.name, .sl 8 (x.wins.map encWin), .int .i64 x.act, .int .i64 x.bef]] 0⟩, ⟨bH, .row 3 [.agg [.sl 4 (h.ses.map encSes), .sl 3 (h.views.map encVw), .int .i64 h.next]] 0⟩]) (fun k => k ≤ k0) (fun k => k0 - k) 0 ?_ ?_
      · exact Nat.zero_le _
      rintro k hk
      by_cases hke : k = k0
      · subst hke
        have hkl := hk0
        have hy0 : ∀ y, x.wins[k]? = some y → pane ∈ panesT y.s := fun y hy => (Option.some.inj (hw0.symm.trans hy)) ▸ hp
        obtain ⟨y, hy⟩ : ∃ y, x.wins[k]? = some y := ⟨_, List.getElem?_eq_getElem hkl⟩
        have hym := List.mem_of_getElem? hy
        have hpn := checkR_ok W y.s (hxo.win y hym).s
        have hyw := (hxr.win y hym)
        have hyt := winT_of hyw
        have hyv := hyw.vis
        rw [chk_eq] at hyv
        rw [chk_panes hyv, hyv, encSpl_eta] at hpn
        have hct := containsI_ok W (panesT y.s) pane (by have := hyt.2; omega)
        rw [decide_eq_true (hy0 y hy)] at hct
        rw [show (panesT y.s).map (PV.int .i64) = panesV (panesT y.s) from rfl] at hct
        refine g0_ ?_
        (refine g1_ ?_; repeat (refine n1_ fun b_ => ?_; refine g1_ ?_))
        refine (hpn).use ?_; refine g0_ ?_
        refine g1_ ?_
        refine (hct).use ?_; refine g0_ ?_
        refine g1_ ?_
        exact .refl _
      · have hkl : k < x.wins.length := by omega
        have hyk : ∀ y, x.wins[k]? = some y → pane ∉ panesT y.s := fun y hy => hb2 y (List.mem_of_getElem? (i := k) (by rw [List.getElem?_take, if_pos (by omega)]; exact hy))
        obtain ⟨y, hy⟩ : ∃ y, x.wins[k]? = some y := ⟨_, List.getElem?_eq_getElem hkl⟩
        have hym := List.mem_of_getElem? hy
        have hpn := checkR_ok W y.s (hxo.win y hym).s
        have hyw := (hxr.win y hym)
        have hyt := winT_of hyw
        have hyv := hyw.vis
        rw [chk_eq] at hyv
        rw [chk_panes hyv, hyv, encSpl_eta] at hpn
        have hct := containsI_ok W (panesT y.s) pane (by have := hyt.2; omega)
        rw [decide_eq_false (hyk y hy)] at hct
        rw [show (panesT y.s).map (PV.int .i64) = panesV (panesT y.s) from rfl] at hct
        refine g0_ ?_
        (refine g1_ ?_; repeat (refine n1_ fun b_ => ?_; refine g1_ ?_))
        refine (hpn).use ?_; refine g0_ ?_
        refine g1_ ?_
        refine (hct).use ?_; refine g0_ ?_
        refine g1_ ?_
        refine nx_ (k + 1) ?_ ?_
        · exact (show k + 1 ≤ k0 by omega)
        · ((try dsimp only); (try simp only [List.length_drop, List.length_take, List.length_append, List.length_cons, List.length_nil, List.length_map] at *); omega)
    · have hil : i < h.ses.length := by omega
      obtain ⟨x, hx⟩ : ∃ x, h.ses[i]? = some x := ⟨_, List.getElem?_eq_getElem hil⟩
      have hxm := List.mem_of_getElem? hx
      have hxo := hok.se x hxm
      have hxr := hsr x hxm
      have hwm : (x.wins.map encWin).length = x.wins.length := List.length_map _
      have hxw := hxo.wins
      have hxk : x ∈ h.ses.take i0 := List.mem_of_getElem? (i := i) (by rw [List.getElem?_take, if_pos (by omega)]; exact hx)
      refine g0_ ?_
      (refine g1_ ?_; repeat (refine n1_ fun b_ => ?_; refine g1_ ?_))
      obtain ⟨bx, rfl⟩ : ∃ z, z = b_ := ⟨_, rfl⟩
      refine' loopI (α := Nat) (fun k => [(23, .int .i64 k)]) [(1, _), (6, _), (13, _), (14, _), (15, _), (21, _), (22, _)] (fun k => [⟨bx, .row 4 [.agg [.str x.name, .sl 8 (x.wins.map encWin), .int .i64 x.act, .int .i64 x.bef]] 0⟩, ⟨bH, .row 3 [.agg [.sl 4 (h.ses.map encSes), .sl 3 (h.views.map encVw), .int .i64 h.next]] 0⟩]) (fun k => k ≤ x.wins.length) (fun k => x.wins.length - k) 0 ?_ ?_
      · exact Nat.zero_le _
      rintro k hk
      by_cases hke : k = x.wins.length
      · subst hke
        refine g0_ ?_
        refine g1_ ?_
        refine nx_ (i + 1) ?_ ?_
        · exact (show i + 1 ≤ i0 by omega)
        · ((try dsimp only); (try simp only [List.length_drop, List.length_take, List.length_append, List.length_cons, List.length_nil, List.length_map] at *); omega)
      · have hkl : k < x.wins.length := by omega
        obtain ⟨y, hy⟩ : ∃ y, x.wins[k]? = some y := ⟨_, List.getElem?_eq_getElem hkl⟩
        have hym := List.mem_of_getElem? hy
        have hpn := checkR_ok W y.s (hxo.win y hym).s
        have hyw := (hxr.win y hym)
        have hyt := winT_of hyw
        have hyv := hyw.vis
        rw [chk_eq] at hyv
        rw [chk_panes hyv, hyv, encSpl_eta] at hpn
        have hct := containsI_ok W (panesT y.s) pane (by have := hyt.2; omega)
        rw [decide_eq_false (hb1 x hxk y hym)] at hct
        rw [show (panesT y.s).map (PV.int .i64) = panesV (panesT y.s) from rfl] at hct
        refine g0_ ?_
        (refine g1_ ?_; repeat (refine n1_ fun b_ => ?_; refine g1_ ?_))
        refine (hpn).use ?_; refine g0_ ?_
        refine g1_ ?_
        refine (hct).use ?_; refine g0_ ?_
        refine g1_ ?_
        refine nx_ (k + 1) ?_ ?_
        · exact hkl
        · ((try dsimp only); (try simp only [List.length_drop, List.length_take, List.length_append, List.length_cons, List.length_nil, List.length_map] at *); omega)
def actR (p : Int) (w : Win) : Win := if w.act = p then w else ⟨w.name, w.s, p, w.act, w.zoom⟩
end Go.Eng.YtkenlcaifhffoaaDoor
end
