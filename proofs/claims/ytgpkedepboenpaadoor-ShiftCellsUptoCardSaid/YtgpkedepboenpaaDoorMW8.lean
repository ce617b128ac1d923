/- Texts put together: ScrW, ScrW2, ScrW3. -/
import Derived.Test.YtgpkedepboenpaaDoorMW7
import Derived.Test.YtgpkedepboenpaaDoorMG1
import Derived.Test.YtgpkedepboenpaaDoorMW3
/- Screens: package wipe's line, Line, Screen. -/
section
namespace Go.Eng.YtgpkedepboenpaaDoor
open Go Go.Eng Go.Proofs
variable (W : World)
set_option linter.unusedSimpArgs false
set_option maxRecDepth 100000
set_option linter.unusedVariables false
set_option maxHeartbeats 8000000
/-- A row of which a part is wiped. -/
def lineR (s : Scr) (kind : Int) (row : List Cell) : List Cell :=
  if kind ≤ 0 then clearR s.look.back s.x.toNat s.g.w.toNat row
  else if kind = 1 then clearR s.look.back 0 (s.x.toNat + 1) row
  else if kind = 2 then clearR s.look.back 0 s.g.w.toNat row
  else row
theorem lineR_len (s : Scr) (kind : Int) (row : List Cell) : (lineR s kind row).length = row.length := by
  unfold lineR
  split
  · exact clearR_len _ _ _ _
  · split
    · exact clearR_len _ _ _ _
    · split
      · exact clearR_len _ _ _ _
      · rfl
theorem wline_ok (b bc : Nat) (tv gv : PV) (s : Scr) {w h : Nat} {L : List (List Cell)} (f : RowsOk L w h) (hw : s.g.w = w) (hh : s.g.h = h) (kind : Int) (x y : Nat) (hx : s.x = x) (hy : s.y = y) (hxw : x < w) {row : List Cell} (hrow : L[y]? = some row) :
    ACalls Tryd.prog W 107 [.bref b 0, .int .i64 kind] [scrB b bc (h * w) tv gv s, ⟨bc, .row 4 (L.flatten.map encCell) 0⟩]
      (Gives (fun _ : Unit => .tup []) (fun _ => [scrB b bc (h * w) tv gv s, ⟨bc, .row 4 ((L.set y (lineR s kind row)).flatten.map encCell) 0⟩]) (fun _ => True)) := by
  have hw2 := f.w2
  have hck := fun (x n : Nat) (hx : x ≤ 10000) (hn : n ≤ 10000) => clear_ok W b bc tv gv s f hw hh y x n hrow hx hn
  have hsame : L.set y row = L := by
    obtain ⟨hy', rfl⟩ := List.getElem?_eq_some_iff.1 hrow
    exact List.set_getElem_self hy'
  have hl : lineR s kind row = if kind ≤ 0 then clearR s.look.back x w row else if kind = 1 then clearR s.look.back 0 (x + 1) row else if kind = 2 then clearR s.look.back 0 w row else row := by
    rw [lineR, hx, hw, Int.toNat_natCast, Int.toNat_natCast]
  rw [hl]
  clear hl
  have hB : scrB b bc (h * w) tv gv s = ⟨b, .row 22 [.agg [.int .i64 w, .int .i64 h, .rsl bc 4 0 (h * w), .int .i64 x, .int .i64 y, .bool s.late, .int .i64 s.look.fore, .int .i64 s.look.back, .int .i64 s.look.bits, .int .i64 s.top, .int .i64 s.bottom, .int .i64 s.modes, tv, .int .i64 s.kx, .int .i64 s.ky, .int .i64 s.ks.fore, .int .i64 s.ks.back, .int .i64 s.ks.bits, .int .i64 s.km, .int .i32 s.last, .str s.title, gv]] 0⟩ := by
    rw [← hw, ← hh, ← hx, ← hy]
    rfl
  simp only [hB] at hck ⊢
  by_cases k0 : kind ≤ 0
  · rw [if_pos k0]
    have hc := hck x w (by omega) (by omega)
    refine acalls_of_vc (drawOk W) Tryd.func107 rfl (by decide) (by decide) rfl ?_
    (refine g0_ ?_; repeat ((first | refine n1_ fun b_ => ?_ | refine n2_ fun b_ => ?_ | refine n3_ fun b_ pre_ => ?_ | refine Nat1.mk fun q_ hq_ => ?_ | refine em_ fun x_ hx_ => ?_ | refine Elem1.mk fun e_ he_ => ?_); refine g0_ ?_))
    (refine g1_ ?_; repeat ((first | refine n1_ fun b_ => ?_ | refine n2_ fun b_ => ?_ | refine n3_ fun b_ pre_ => ?_ | refine Nat1.mk fun q_ hq_ => ?_ | refine em_ fun x_ hx_ => ?_ | refine Elem1.mk fun e_ he_ => ?_); refine g1_ ?_))
    refine Draws.head ⟨14, by decide +kernel, ?_⟩
    (refine g0_ ?_; repeat ((first | refine n1_ fun b_ => ?_ | refine n2_ fun b_ => ?_ | refine n3_ fun b_ pre_ => ?_ | refine Nat1.mk fun q_ hq_ => ?_ | refine em_ fun x_ hx_ => ?_ | refine Elem1.mk fun e_ he_ => ?_); refine g0_ ?_))
    refine ACalls.lend hc (r := []) (.refl _) ?_
    rintro _ -
    (refine g0_ ?_; repeat ((first | refine n1_ fun b_ => ?_ | refine n2_ fun b_ => ?_ | refine n3_ fun b_ pre_ => ?_ | refine Nat1.mk fun q_ hq_ => ?_ | refine em_ fun x_ hx_ => ?_ | refine Elem1.mk fun e_ he_ => ?_); refine g0_ ?_))
    exact ⟨(), trivial, rfl, wkMem.rfl'⟩
  rw [if_neg k0]
  by_cases k1 : kind = 1
  · rw [if_pos k1]
    have hc := hck 0 (x + 1) (by omega) (by omega)
    refine acalls_of_vc (drawOk W) Tryd.func107 rfl (by decide) (by decide) rfl ?_
    (refine g0_ ?_; repeat ((first | refine n1_ fun b_ => ?_ | refine n2_ fun b_ => ?_ | refine n3_ fun b_ pre_ => ?_ | refine Nat1.mk fun q_ hq_ => ?_ | refine em_ fun x_ hx_ => ?_ | refine Elem1.mk fun e_ he_ => ?_); refine g0_ ?_))
    (refine g1_ ?_; repeat ((first | refine n1_ fun b_ => ?_ | refine n2_ fun b_ => ?_ | refine n3_ fun b_ pre_ => ?_ | refine Nat1.mk fun q_ hq_ => ?_ | refine em_ fun x_ hx_ => ?_ | refine Elem1.mk fun e_ he_ => ?_); refine g1_ ?_))
    refine Draws.head ⟨10, by decide +kernel, ?_⟩
    (refine g0_ ?_; repeat ((first | refine n1_ fun b_ => ?_ | refine n2_ fun b_ => ?_ | refine n3_ fun b_ pre_ => ?_ | refine Nat1.mk fun q_ hq_ => ?_ | refine em_ fun x_ hx_ => ?_ | refine Elem1.mk fun e_ he_ => ?_); refine g0_ ?_))
    refine ACalls.lend hc (r := []) (.refl _) ?_
    rintro _ -
    (refine g0_ ?_; repeat ((first | refine n1_ fun b_ => ?_ | refine n2_ fun b_ => ?_ | refine n3_ fun b_ pre_ => ?_ | refine Nat1.mk fun q_ hq_ => ?_ | refine em_ fun x_ hx_ => ?_ | refine Elem1.mk fun e_ he_ => ?_); refine g0_ ?_))
    exact ⟨(), trivial, rfl, wkMem.rfl'⟩
  rw [if_neg k1]
  by_cases k2 : kind = 2
  · rw [if_pos k2]
    have hc := hck 0 w (by omega) (by omega)
    refine acalls_of_vc (drawOk W) Tryd.func107 rfl (by decide) (by decide) rfl ?_
    (refine g0_ ?_; repeat ((first | refine n1_ fun b_ => ?_ | refine n2_ fun b_ => ?_ | refine n3_ fun b_ pre_ => ?_ | refine Nat1.mk fun q_ hq_ => ?_ | refine em_ fun x_ hx_ => ?_ | refine Elem1.mk fun e_ he_ => ?_); refine g0_ ?_))
    (refine g1_ ?_; repeat ((first | refine n1_ fun b_ => ?_ | refine n2_ fun b_ => ?_ | refine n3_ fun b_ pre_ => ?_ | refine Nat1.mk fun q_ hq_ => ?_ | refine em_ fun x_ hx_ => ?_ | refine Elem1.mk fun e_ he_ => ?_); refine g1_ ?_))
    refine Draws.head ⟨10, by decide +kernel, ?_⟩
    (refine g0_ ?_; repeat ((first | refine n1_ fun b_ => ?_ | refine n2_ fun b_ => ?_ | refine n3_ fun b_ pre_ => ?_ | refine Nat1.mk fun q_ hq_ => ?_ | refine em_ fun x_ hx_ => ?_ | refine Elem1.mk fun e_ he_ => ?_); refine g0_ ?_))
    refine ACalls.lend hc (r := []) (.refl _) ?_
    rintro _ -
    (refine g0_ ?_; repeat ((first | refine n1_ fun b_ => ?_ | refine n2_ fun b_ => ?_ | refine n3_ fun b_ pre_ => ?_ | refine Nat1.mk fun q_ hq_ => ?_ | refine em_ fun x_ hx_ => ?_ | refine Elem1.mk fun e_ he_ => ?_); refine g0_ ?_))
    exact ⟨(), trivial, rfl, wkMem.rfl'⟩
  · rw [if_neg k2, hsame]
    refine acalls_of_vc (drawOk W) Tryd.func107 rfl (by decide) (by decide) rfl ?_
    (refine g0_ ?_; repeat ((first | refine n1_ fun b_ => ?_ | refine n2_ fun b_ => ?_ | refine n3_ fun b_ pre_ => ?_ | refine Nat1.mk fun q_ hq_ => ?_ | refine em_ fun x_ hx_ => ?_ | refine Elem1.mk fun e_ he_ => ?_); refine g0_ ?_))
    (refine g1_ ?_; repeat ((first | refine n1_ fun b_ => ?_ | refine n2_ fun b_ => ?_ | refine n3_ fun b_ pre_ => ?_ | refine Nat1.mk fun q_ hq_ => ?_ | refine em_ fun x_ hx_ => ?_ | refine Elem1.mk fun e_ he_ => ?_); refine g1_ ?_))
    exact ⟨(), trivial, rfl, wkMem.rfl'⟩
theorem wline1_ok (b bc bn : Nat) (tv gv : PV) (s : Scr) {w h : Nat} {L : List (List Cell)} (f : RowsOk L w h) (hw : s.g.w = w) (hh : s.g.h = h) (kind : Int) (x y : Nat) (hx : s.x = x) (hy : s.y = y) (hxw : x < w) {row : List Cell} (hrow : L[y]? = some row) :
    ACalls Tryd.prog W 106 [.bref b 0, .bref bn 0] [scrB b bc (h * w) tv gv s, ⟨bc, .row 4 (L.flatten.map encCell) 0⟩, numB bn kind]
      (Gives (fun _ : Unit => .tup []) (fun _ => [scrB b bc (h * w) tv gv { s with late := false }, ⟨bc, .row 4 ((L.set y (lineR s kind row)).flatten.map encCell) 0⟩, numB bn kind]) (fun _ => True)) := by
  have hli := wline_ok W b bc tv gv { s with late := false } f hw hh kind x y hx hy hxw hrow
  rw [show lineR { s with late := false } kind row = lineR s kind row from rfl] at hli
  refine acalls_of_vc (drawOk W) Tryd.func106 rfl (by decide) (by decide) rfl ?_
  (refine g0_ ?_; repeat ((first | refine n1_ fun b_ => ?_ | refine n2_ fun b_ => ?_ | refine n3_ fun b_ pre_ => ?_ | refine Nat1.mk fun q_ hq_ => ?_ | refine em_ fun x_ hx_ => ?_ | refine Elem1.mk fun e_ he_ => ?_); refine g0_ ?_))
  refine ACalls.lend hli (r := [numB bn kind]) (.refl _) ?_
  rintro _ -
  (refine g0_ ?_; repeat ((first | refine n1_ fun b_ => ?_ | refine n2_ fun b_ => ?_ | refine n3_ fun b_ pre_ => ?_ | refine Nat1.mk fun q_ hq_ => ?_ | refine em_ fun x_ hx_ => ?_ | refine Elem1.mk fun e_ he_ => ?_); refine g0_ ?_))
  exact ⟨(), trivial, rfl, wkMem.rfl'⟩
/-- Which rows are wiped as a whole. -/
def wipeC (s : Scr) (kind : Int) (k : Nat) : Bool := decide (kind = 2 ∨ (kind ≤ 0 ∧ s.y < k) ∨ (kind = 1 ∧ (k : Int) < s.y))
def wipeP (s : Scr) (kind : Int) (k : Nat) (row : List Cell) : List Cell := if wipeC s kind k then List.replicate s.g.w.toNat (blankB s.look.back) else row
def wipeR (s : Scr) (kind : Int) (L : List (List Cell)) : List (List Cell) := (L.modify s.y.toNat (lineR s kind)).mapIdx (wipeP s kind)
theorem rowsOk_upto {L : List (List Cell)} {w h : Nat} (f : RowsOk L w h) (p : Nat → List Cell → List Cell) (hp : ∀ k r, r.length = w → (p k r).length = w) (i : Nat) : RowsOk (upto p i L) w h := by
  refine ⟨by rw [upto_len]; exact f.len, fun r hr => ?_, f.w1, f.w2, f.h1, f.h2⟩
  obtain ⟨k, hk⟩ := List.getElem?_of_mem hr
  rw [upto_get] at hk
  obtain ⟨d, hd, rfl⟩ := Option.map_eq_some_iff.1 hk
  have := f.row d (List.mem_of_getElem? hd)
  split
  · exact hp k d this
  · exact this
theorem wscreen1_ok (b bc bn : Nat) (tv gv : PV) (s : Scr) {w h : Nat} {L : List (List Cell)} (f : RowsOk L w h) (hw : s.g.w = w) (hh : s.g.h = h) (kind : Int) (hk : kind ≤ 2) (x y : Nat) (hx : s.x = x) (hy : s.y = y) (hxw : x < w) (hyh : y < h) :
    ACalls Tryd.prog W 108 [.bref b 0, .bref bn 0] [scrB b bc (h * w) tv gv s, ⟨bc, .row 4 (L.flatten.map encCell) 0⟩, numB bn kind]
      (Gives (fun _ : Unit => .tup []) (fun _ => [scrB b bc (h * w) tv gv { s with late := false }, ⟨bc, .row 4 ((wipeR s kind L).flatten.map encCell) 0⟩, numB bn kind]) (fun _ => True)) := by
  have hw2 := f.w2
  have hh2 := f.h2
  obtain ⟨row, hrow, hrl⟩ := f.at hyh
  have hli := wline_ok W b bc tv gv { s with late := false } f hw hh kind x y hx hy hxw hrow
  rw [show lineR { s with late := false } kind row = lineR s kind row from rfl] at hli
  have hL1 : L.modify s.y.toNat (lineR s kind) = L.set y (lineR s kind row) := by
    rw [hy, Int.toNat_natCast]
    refine List.ext_getElem? fun k => ?_
    rw [List.getElem?_modify, List.getElem?_set]
    by_cases e : y = k
    · subst e; simp [hrow, lt_of_at hrow, (List.getElem?_eq_some_iff.1 hrow).2]
    · simp [e]
  have f1 : RowsOk (L.set y (lineR s kind row)) w h := f.set y (by rw [lineR_len, hrl])
  have hwl : (wipeR s kind L) = (L.set y (lineR s kind row)).mapIdx (wipeP s kind) := by rw [wipeR, hL1]
  rw [hwl]
  clear hwl hL1
  generalize L.set y (lineR s kind row) = L1 at *
  have hpl : ∀ k r, r.length = w → (wipeP s kind k r).length = w := fun k r hr => by
    unfold wipeP
    split
    · rw [List.length_replicate, hw, Int.toNat_natCast]
    · exact hr
  have hck := fun {L' : List (List Cell)} (f' : RowsOk L' w h) (i : Nat) {row : List Cell} (hrow : L'[i]? = some row) => clear_ok W b bc tv gv { s with late := false } f' hw hh i 0 w hrow (by omega) (by omega)
  have hP : ∀ k r, wipeP s kind k r = if wipeC s kind k then List.replicate w (blankB s.look.back) else r := fun k r => by rw [wipeP, hw, Int.toNat_natCast]
  have hC : ∀ k : Nat, wipeC s kind k = decide (kind = 2 ∨ (kind ≤ 0 ∧ (y : Int) < k) ∨ (kind = 1 ∧ (k : Int) < y)) := fun k => by rw [wipeC, hy]
  generalize wipeP s kind = P at *
  generalize wipeC s kind = C at *
  have hB : ∀ lt, scrB b bc (h * w) tv gv { s with late := lt } = ⟨b, .row 22 [.agg [.int .i64 w, .int .i64 h, .rsl bc 4 0 (h * w), .int .i64 x, .int .i64 y, .bool lt, .int .i64 s.look.fore, .int .i64 s.look.back, .int .i64 s.look.bits, .int .i64 s.top, .int .i64 s.bottom, .int .i64 s.modes, tv, .int .i64 s.kx, .int .i64 s.ky, .int .i64 s.ks.fore, .int .i64 s.ks.back, .int .i64 s.ks.bits, .int .i64 s.km, .int .i32 s.last, .str s.title, gv]] 0⟩ := fun lt => by
    rw [← hw, ← hh, ← hx, ← hy]
    rfl
  rw [show scrB b bc (h * w) tv gv s = scrB b bc (h * w) tv gv { s with late := s.late } from rfl]
  simp only [hB] at *
  clear hB
  refine acalls_of_vc (drawOk W) Tryd.func108 rfl (by decide) (by decide) rfl ?_
  (refine g0_ ?_; repeat ((first | refine n1_ fun b_ => ?_ | refine n2_ fun b_ => ?_ | refine n3_ fun b_ pre_ => ?_ | refine Nat1.mk fun q_ hq_ => ?_ | refine em_ fun x_ hx_ => ?_ | refine Elem1.mk fun e_ he_ => ?_); refine g0_ ?_))
  (refine g1_ ?_; repeat ((first | refine n1_ fun b_ => ?_ | refine n2_ fun b_ => ?_ | refine n3_ fun b_ pre_ => ?_ | refine Nat1.mk fun q_ hq_ => ?_ | refine em_ fun x_ hx_ => ?_ | refine Elem1.mk fun e_ he_ => ?_); refine g1_ ?_))
  refine ACalls.lend hli (r := [numB bn kind]) (.refl _) ?_
  rintro _ -
  (refine g0_ ?_; repeat ((first | refine n1_ fun b_ => ?_ | refine n2_ fun b_ => ?_ | refine n3_ fun b_ pre_ => ?_ | refine Nat1.mk fun q_ hq_ => ?_ | refine em_ fun x_ hx_ => ?_ | refine Elem1.mk fun e_ he_ => ?_); refine g0_ ?_))
  refine' loopI (α := Nat × (List (List Cell))) (fun (i, L') => [(22, .int .i64 i)]) [(0, _), (1, _), (21, _)] (fun (i, L') => [⟨b, .row 22 [.agg [.int .i64 w, .int .i64 h, .rsl bc 4 0 (h * w), .int .i64 x, .int .i64 y, .bool false, .int .i64 s.look.fore, .int .i64 s.look.back, .int .i64 s.look.bits, .int .i64 s.top, .int .i64 s.bottom, .int .i64 s.modes, tv, .int .i64 s.kx, .int .i64 s.ky, .int .i64 s.ks.fore, .int .i64 s.ks.back, .int .i64 s.ks.bits, .int .i64 s.km, .int .i32 s.last, .str s.title, gv]] 0⟩, ⟨bc, .row 4 (L'.flatten.map encCell) 0⟩, numB bn kind]) (fun (i, L') => i ≤ h ∧ L' = upto P i L1) (fun (i, L') => h - i) (0, L1) ?_ ?_
  · exact ⟨Nat.zero_le _, (upto_zero _ _).symm⟩
  rintro ⟨i, L'⟩ ⟨hi, hL'⟩
  (refine g0_ ?_; repeat ((first | refine n1_ fun b_ => ?_ | refine n2_ fun b_ => ?_ | refine n3_ fun b_ pre_ => ?_ | refine Nat1.mk fun q_ hq_ => ?_ | refine em_ fun x_ hx_ => ?_ | refine Elem1.mk fun e_ he_ => ?_); refine g0_ ?_))
  refine brec ?_; intro c_ h1; (try rw [h1]); cases c_ <;> replace h1 := nm_ h1
  · have hih : h ≤ i := by omega
    rw [upto_end (by rw [f1.len]; exact hih)] at hL'
    subst hL'
    (refine g0_ ?_; repeat ((first | refine n1_ fun b_ => ?_ | refine n2_ fun b_ => ?_ | refine n3_ fun b_ pre_ => ?_ | refine Nat1.mk fun q_ hq_ => ?_ | refine em_ fun x_ hx_ => ?_ | refine Elem1.mk fun e_ he_ => ?_); refine g0_ ?_))
    exact ⟨(), trivial, rfl, wkMem.rfl'⟩
  · have hih : i < h := by omega
    have f' : RowsOk L' w h := hL' ▸ rowsOk_upto f1 P hpl i
    obtain ⟨d, hd, hdl⟩ := f1.at hih
    have hat : L'[i]? = some d := hL' ▸ upto_at P hd
    (refine g0_ ?_; repeat ((first | refine n1_ fun b_ => ?_ | refine n2_ fun b_ => ?_ | refine n3_ fun b_ pre_ => ?_ | refine Nat1.mk fun q_ hq_ => ?_ | refine em_ fun x_ hx_ => ?_ | refine Elem1.mk fun e_ he_ => ?_); refine g0_ ?_))
    refine brec ?_; intro c_ h2; (try rw [h2]); cases c_ <;> replace h2 := nm_ h2
    · have hq : P i d = d := by
        rw [hP, hC, if_neg]
        simp only [decide_eq_true_eq]
        omega
      (refine g0_ ?_; repeat ((first | refine n1_ fun b_ => ?_ | refine n2_ fun b_ => ?_ | refine n3_ fun b_ pre_ => ?_ | refine Nat1.mk fun q_ hq_ => ?_ | refine em_ fun x_ hx_ => ?_ | refine Elem1.mk fun e_ he_ => ?_); refine g0_ ?_))
      refine nx_ (i + 1, L') ?_ ?_
      · exact ⟨hih, by rw [upto_same hd hq, hL']⟩
      · show h - (i + 1) < h - i
        omega
    · have hq : P i d = List.replicate w (blankB s.look.back) := by
        rw [hP, hC, if_pos]
        simp only [decide_eq_true_eq]
        omega
      have hcl := hck f' i hat
      rw [clear_all s.look.back (by omega), hdl, ← hq] at hcl
      (refine g0_ ?_; repeat ((first | refine n1_ fun b_ => ?_ | refine n2_ fun b_ => ?_ | refine n3_ fun b_ pre_ => ?_ | refine Nat1.mk fun q_ hq_ => ?_ | refine em_ fun x_ hx_ => ?_ | refine Elem1.mk fun e_ he_ => ?_); refine g0_ ?_))
      refine ACalls.lend hcl (r := [numB bn kind]) (.refl _) ?_
      rintro _ -
      (refine g0_ ?_; repeat ((first | refine n1_ fun b_ => ?_ | refine n2_ fun b_ => ?_ | refine n3_ fun b_ pre_ => ?_ | refine Nat1.mk fun q_ hq_ => ?_ | refine em_ fun x_ hx_ => ?_ | refine Elem1.mk fun e_ he_ => ?_); refine g0_ ?_))
      refine nx_ (i + 1, L'.set i (P i d)) ?_ ?_
      · show i + 1 ≤ h ∧ _ = _
        exact ⟨hih, by rw [upto_set hd, hL']⟩
      · show h - (i + 1) < h - i
        omega
end Go.Eng.YtgpkedepboenpaaDoor
end

/- Screens: the law WipeAll. -/
section
namespace Go.Eng.YtgpkedepboenpaaDoor
open Go Go.Eng Go.Proofs
variable (W : World)
set_option linter.unusedSimpArgs false
set_option maxRecDepth 100000
set_option linter.unusedVariables false
set_option maxHeartbeats 8000000
def wipeLineS (s : Scr) (kind : Int) : Scr := ({ s with late := false } : Scr).put (s.g.rows.modify s.y.toNat (lineR s kind)) s.gone
def wipeScrS (s : Scr) (kind : Int) : Scr := ({ s with late := false } : Scr).put (wipeR s kind s.g.rows) s.gone
theorem rowsOk_of {s : Scr} {w h : Nat} (hr : s.right w h) : RowsOk s.g.rows w h := ⟨hr.fit.rlen, hr.fit.row, hr.fit.w1, hr.fit.w2, hr.fit.h1, hr.fit.h2⟩
theorem wipeLine_ok (hT : Tabs W) (s : Scr) (hok : s.ok) (kind : Int) : Pure Tryd.prog W 46 [encScr s, .int .i64 kind] (.tup [encScr (moveE s (wipeLineS s kind)).1, .int .i64 (moveE s (wipeLineS s kind)).2]) := by
  by_cases h0 : checkS s = 0
  · obtain ⟨w, h, hr⟩ := right_of h0
    have f := rowsOk_of hr
    have hx := hr.x
    have hy := hr.y
    obtain ⟨x, hx'⟩ := Int.eq_ofNat_of_zero_le hx.1
    obtain ⟨y, hy'⟩ := Int.eq_ofNat_of_zero_le hy.1
    obtain ⟨row, hrow, hrl⟩ := f.at (y := y) (by omega)
    have e : wipeLineS s kind = ({ s with late := false } : Scr).put (s.g.rows.set y (lineR s kind row)) s.gone := by
      rw [wipeLineS, hy', Int.toNat_natCast, modify_set hrow]
    have fl := (f.set y (r := lineR s kind row) (by rw [lineR_len, hrl])).flat
    rw [moveE, if_pos h0, e]
    refine Pure.of (acalls_of_vc (drawOk W) Tryd.func46 rfl (by decide) (by decide) rfl ?_)
    (refine g0_ ?_; repeat ((first | refine n1_ fun b_ => ?_ | refine n2_ fun b_ => ?_ | refine n3_ fun b_ pre_ => ?_ | refine Nat1.mk fun q_ hq_ => ?_ | refine em_ fun x_ hx_ => ?_ | refine Elem1.mk fun e_ he_ => ?_); refine g0_ ?_))
    rename_i bn
    refine ACalls.lendF (change_rows W hT s hok h0 hr 106 [.bref bn 0] [numB bn kind] { s with late := false } (s.g.rows.set y (lineR s kind row)) s.gone rfl fl (fun b bc tv bg => ?_)) (.swap _ _ _) ?_
    · refine ACalls.lend (wline1_ok W b bc bn tv (.rsl bg 1 0 s.gone.length) s f hr.fit.ew hr.fit.eh kind x y hx' hy' (by omega) hrow) (r := [gonB bg [] s.gone]) ?_ ?_
      · exact List.Perm.cons _ (List.Perm.cons _ (.swap _ _ _))
      · rintro _ -
        exact ⟨(bg, []), trivial, rfl, by (first | exact ⟨_, .refl _⟩ | exact wkMem.rfl' | exact ⟨_, .swap _ _ _⟩ | (repeat (first | exact wkMem.nil _ | exact wkMem.rfl' | exact wk_snoc _ _ _ | exact wk_fam (by assumption) _ _ _ | exact wk_famN (by assumption) _ _ _ | (apply wkMem.cons; (case' hl => (repeat (first | exact .here _ _ _ | apply Look.there)))) | apply wkMem.skip)))⟩
    · (refine g0_ ?_; repeat ((first | refine n1_ fun b_ => ?_ | refine n2_ fun b_ => ?_ | refine n3_ fun b_ pre_ => ?_ | refine Nat1.mk fun q_ hq_ => ?_ | refine em_ fun x_ hx_ => ?_ | refine Elem1.mk fun e_ he_ => ?_); refine g0_ ?_))
      exact .refl _
  · rw [moveE, if_neg h0]
    have hb := change_bad W hT s hok h0
    refine Pure.of (acalls_of_vc (drawOk W) Tryd.func46 rfl (by decide) (by decide) rfl ?_)
    (refine g0_ ?_; repeat ((first | refine n1_ fun b_ => ?_ | refine n2_ fun b_ => ?_ | refine n3_ fun b_ pre_ => ?_ | refine Nat1.mk fun q_ hq_ => ?_ | refine em_ fun x_ hx_ => ?_ | refine Elem1.mk fun e_ he_ => ?_); refine g0_ ?_))
    rename_i bn
    refine (hb 106 [.bref bn 0]).use ?_
    (refine g0_ ?_; repeat ((first | refine n1_ fun b_ => ?_ | refine n2_ fun b_ => ?_ | refine n3_ fun b_ pre_ => ?_ | refine Nat1.mk fun q_ hq_ => ?_ | refine em_ fun x_ hx_ => ?_ | refine Elem1.mk fun e_ he_ => ?_); refine g0_ ?_))
    exact .refl _
theorem wipeR_ok {L : List (List Cell)} {w h : Nat} (f : RowsOk L w h) (s : Scr) (hw : s.g.w = w) (kind : Int) : RowsOk (wipeR s kind L) w h := by
  have f1 : RowsOk (L.modify s.y.toNat (lineR s kind)) w h := by
    refine ⟨by rw [List.length_modify]; exact f.len, fun r hr => ?_, f.w1, f.w2, f.h1, f.h2⟩
    obtain ⟨k, hk⟩ := List.getElem?_of_mem hr
    rw [List.getElem?_modify] at hk
    obtain ⟨d, hd, rfl⟩ := Option.map_eq_some_iff.1 hk
    have := f.row d (List.mem_of_getElem? hd)
    split
    · rw [lineR_len]; exact this
    · exact this
  have := rowsOk_upto f1 (wipeP s kind) (fun k r hr => by
    unfold wipeP
    split
    · rw [List.length_replicate, hw, Int.toNat_natCast]
    · exact hr) h
  rwa [upto_end (by rw [f1.len]; exact Nat.le_refl _)] at this
theorem wipeScreen_ok (hT : Tabs W) (s : Scr) (hok : s.ok) (kind : Int) (hk : kind ≤ 2) : Pure Tryd.prog W 47 [encScr s, .int .i64 kind] (.tup [encScr (moveE s (wipeScrS s kind)).1, .int .i64 (moveE s (wipeScrS s kind)).2]) := by
  by_cases h0 : checkS s = 0
  · obtain ⟨w, h, hr⟩ := right_of h0
    have f := rowsOk_of hr
    have hx := hr.x
    have hy := hr.y
    obtain ⟨x, hx'⟩ := Int.eq_ofNat_of_zero_le hx.1
    obtain ⟨y, hy'⟩ := Int.eq_ofNat_of_zero_le hy.1
    rw [moveE, if_pos h0]
    refine Pure.of (acalls_of_vc (drawOk W) Tryd.func47 rfl (by decide) (by decide) rfl ?_)
    (refine g0_ ?_; repeat ((first | refine n1_ fun b_ => ?_ | refine n2_ fun b_ => ?_ | refine n3_ fun b_ pre_ => ?_ | refine Nat1.mk fun q_ hq_ => ?_ | refine em_ fun x_ hx_ => ?_ | refine Elem1.mk fun e_ he_ => ?_); refine g0_ ?_))
    rename_i bn
    refine ACalls.lendF (change_rows W hT s hok h0 hr 108 [.bref bn 0] [numB bn kind] { s with late := false } (wipeR s kind s.g.rows) s.gone rfl (wipeR_ok f s hr.fit.ew kind).flat (fun b bc tv bg => ?_)) (.swap _ _ _) ?_
    · refine ACalls.lend (wscreen1_ok W b bc bn tv (.rsl bg 1 0 s.gone.length) s f hr.fit.ew hr.fit.eh kind hk x y hx' hy' (by omega) (by omega)) (r := [gonB bg [] s.gone]) ?_ ?_
      · exact List.Perm.cons _ (List.Perm.cons _ (.swap _ _ _))
      · rintro _ -
        exact ⟨(bg, []), trivial, rfl, by (first | exact ⟨_, .refl _⟩ | exact wkMem.rfl' | exact ⟨_, .swap _ _ _⟩ | (repeat (first | exact wkMem.nil _ | exact wkMem.rfl' | exact wk_snoc _ _ _ | exact wk_fam (by assumption) _ _ _ | exact wk_famN (by assumption) _ _ _ | (apply wkMem.cons; (case' hl => (repeat (first | exact .here _ _ _ | apply Look.there)))) | apply wkMem.skip)))⟩
    · (refine g0_ ?_; repeat ((first | refine n1_ fun b_ => ?_ | refine n2_ fun b_ => ?_ | refine n3_ fun b_ pre_ => ?_ | refine Nat1.mk fun q_ hq_ => ?_ | refine em_ fun x_ hx_ => ?_ | refine Elem1.mk fun e_ he_ => ?_); refine g0_ ?_))
      exact .refl _
  · rw [moveE, if_neg h0]
    have hb := change_bad W hT s hok h0
    refine Pure.of (acalls_of_vc (drawOk W) Tryd.func47 rfl (by decide) (by decide) rfl ?_)
    (refine g0_ ?_; repeat ((first | refine n1_ fun b_ => ?_ | refine n2_ fun b_ => ?_ | refine n3_ fun b_ pre_ => ?_ | refine Nat1.mk fun q_ hq_ => ?_ | refine em_ fun x_ hx_ => ?_ | refine Elem1.mk fun e_ he_ => ?_); refine g0_ ?_))
    rename_i bn
    refine (hb 108 [.bref bn 0]).use ?_
    (refine g0_ ?_; repeat ((first | refine n1_ fun b_ => ?_ | refine n2_ fun b_ => ?_ | refine n3_ fun b_ pre_ => ?_ | refine Nat1.mk fun q_ hq_ => ?_ | refine em_ fun x_ hx_ => ?_ | refine Elem1.mk fun e_ he_ => ?_); refine g0_ ?_))
    exact .refl _
end Go.Eng.YtgpkedepboenpaaDoor
end

/- Screens: the law WipeAll, joined. -/
section
namespace Go.Eng.YtgpkedepboenpaaDoor
open Go Go.Eng Go.Proofs
variable (W : World)
set_option linter.unusedSimpArgs false
set_option maxRecDepth 100000
set_option linter.unusedVariables false
set_option maxHeartbeats 8000000
theorem wkR_of {s : Scr} (h0 : s.R) (ho : s.ok) {w h : Nat} (f : s.g.fit w h) : WkR (s, s.g.rows, s.gone) w h := ⟨h0, ho, f.ew, f.eh, rowsR_of f h0.g ho.g, goneR_of h0 ho⟩
theorem lineR_good {s : Scr} (hs : checkStyle s.look = true) (kind : Int) {row : List Cell} (hg : goodI row) : goodI (lineR s kind row) := by
  unfold lineR
  split
  · exact clear_good hs _ _ hg
  · split
    · exact clear_good hs _ _ hg
    · split
      · exact clear_good hs _ _ hg
      · exact hg
theorem lineR_cok {s : Scr} (hs : checkStyle s.look = true) (kind : Int) {row : List Cell} (hg : ∀ c ∈ row, c.ok) : ∀ c ∈ lineR s kind row, c.ok := by
  unfold lineR
  split
  · exact clear_cok hs _ _ hg
  · split
    · exact clear_cok hs _ _ hg
    · split
      · exact clear_cok hs _ _ hg
      · exact hg
theorem lineR_twice {s : Scr} (hs : checkStyle s.look = true) (kind : Int) {row : List Cell} (hg : goodI row) : lineR s kind (lineR s kind row) = lineR s kind row := by
  unfold lineR
  split
  · exact clear_twice hs _ _ hg
  · split
    · exact clear_twice hs _ _ hg
    · split
      · exact clear_twice hs _ _ hg
      · rfl
theorem R_late {s : Scr} (h : s.R) : ({ s with late := false } : Scr).R := by
  obtain ⟨h1, h2, h3, h4, h5, h6, h7, h8, h9, h10, h11, h12, h13⟩ := h
  exact ⟨h1, h2, h3, h4, (fun h => by cases h), h6, h7, h8, h9, h10, h11, h12, h13⟩
theorem wipeLine_wk {s : Scr} (h0 : s.R) (ho : s.ok) {w h : Nat} (f : s.g.fit w h) (kind : Int) : ∃ L1, RowsR L1 w h ∧ s.g.rows.modify s.y.toNat (lineR s kind) = L1 ∧ L1.modify s.y.toNat (lineR s kind) = L1 ∧ WkR ({ s with late := false }, L1, s.gone) w h := by
  have hk := wkR_of h0 ho f
  have hxy := h0.xy
  have eh := f.eh
  obtain ⟨row, hrow, hrl⟩ := hk.rows.ok.at (y := s.y.toNat) (by omega)
  have hm := List.mem_of_getElem? hrow
  have r1 : RowsR (s.g.rows.set s.y.toNat (lineR s kind row)) w h := hk.rows.set _ (by rw [lineR_len, hrl]) (lineR_good h0.look kind (hk.rows.good row hm)) (lineR_cok h0.look kind (hk.rows.cok row hm))
  refine ⟨_, r1, modify_set hrow _, ?_, R_late h0, ok_at ho s.x s.y false ho.x ho.y, f.ew, f.eh, r1, hk.gone⟩
  have h1 : (s.g.rows.set s.y.toNat (lineR s kind row))[s.y.toNat]? = some (lineR s kind row) := by
    rw [List.getElem?_set, if_pos rfl, if_pos (lt_of_at hrow)]
  rw [modify_set h1, lineR_twice h0.look kind (hk.rows.good row hm), List.set_set]
theorem wipeLine_right {s : Scr} (h0 : s.R) (ho : s.ok) {w h : Nat} (f : s.g.fit w h) (kind : Int) : (wipeLineS s kind).R ∧ (wipeLineS s kind).ok ∧ wipeLineS (wipeLineS s kind) kind = wipeLineS s kind := by
  obtain ⟨L1, r1, e1, e2, hk⟩ := wipeLine_wk h0 ho f kind
  have e : wipeLineS s kind = ({ s with late := false } : Scr).put L1 s.gone := by rw [wipeLineS, e1]
  have hg : (wipeLineS s kind).g = ⟨w, h, L1.flatten⟩ := by
    rw [e]
    show (⟨s.g.w, s.g.h, L1.flatten⟩ : Grid) = _
    rw [f.ew, f.eh]
  have hr : (wipeLineS s kind).g.rows = L1 := by rw [hg, r1.rows]
  refine ⟨e ▸ hk.right, e ▸ hk.okS, ?_⟩
  rw [wipeLineS, hr, show lineR (wipeLineS s kind) kind = lineR s kind from by rw [e]; rfl, show (wipeLineS s kind).y = s.y from rfl, e2, e]
  rfl
theorem wipe2_all {s : Scr} {w h : Nat} (f : s.g.fit w h) : ∀ c ∈ (wipeScrS s 2).g.cs, c = blankB s.look.back := by
  intro c hc
  have hc' : c ∈ (wipeR s 2 s.g.rows).flatten := hc
  obtain ⟨r, hr, hcr⟩ := List.mem_flatten.1 hc'
  obtain ⟨k, hk⟩ := List.getElem?_of_mem hr
  rw [wipeR, List.getElem?_mapIdx] at hk
  obtain ⟨d, hd, rfl⟩ := Option.map_eq_some_iff.1 hk
  rw [wipeP, if_pos (by rw [wipeC]; simp)] at hcr
  exact List.eq_of_mem_replicate hcr
theorem wipe2_len {s : Scr} {w h : Nat} (f : s.g.fit w h) : (wipeScrS s 2).g.cs.length ≤ 100000 := by
  have := (wipeR_ok (L := s.g.rows) ⟨f.rlen, f.row, f.w1, f.w2, f.h1, f.h2⟩ s f.ew 2).flat
  have h2 := f.small
  show (wipeR s 2 s.g.rows).flatten.length ≤ _
  rw [this, Nat.mul_comm]; omega
theorem sameP_refl (s : Scr) : sameP s s := ⟨rfl, rfl, rfl, rfl, rfl, rfl, rfl, rfl, rfl, ⟨rfl, rfl, rfl, rfl⟩, rfl, rfl, rfl⟩
end Go.Eng.YtgpkedepboenpaaDoor
end
