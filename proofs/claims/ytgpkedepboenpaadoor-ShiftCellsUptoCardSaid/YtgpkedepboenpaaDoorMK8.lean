/- Texts put together: Dsk12, Dsk13. -/
import Derived.Test.YtgpkedepboenpaaDoorMK7
import Derived.Test.YtgpkedepboenpaaDoorMW8
/- What is wiped: the desk's line, screen, chars; package wipe's Chars, and Screen of 3; the law WipeLine. -/
section
namespace Go.Eng.YtgpkedepboenpaaDoor
open Go Go.Eng Go.Proofs
variable (W : World)
set_option linter.unusedSimpArgs false
set_option maxRecDepth 100000
set_option linter.unusedVariables false
set_option maxHeartbeats 8000000
/-- What is done changes the desk's own block and its rows. -/
theorem actOp_rows {s s1 : Scr} {L : List (List Cell)} (what : List UInt8) (n m : Int) (ht : s1.tabs = s.tabs) (hgn : s1.gone = s.gone) (hw : s1.g.w = s.g.w) (hh : s1.g.h = s.g.h) (hL : ∀ w h, s.right w h → RowsOk L w h)
    (h : checkS s = 0 → ∀ w h, s.right w h → ∀ (d : Nat) (cv tv gv : PV) (bo : Nat) (l : Fam), l.map Prod.snd = s.g.rows → ACalls Tryd.prog W 75 (actArgs what n m d) (dM d cv tv gv bo l s) (Gives (fun _ : Fam => .tup []) (fun l' => dM d cv tv gv bo l' s1) (fun l' => l'.map Prod.snd = L))) :
    ActOp W s (moveE s (s1.put L s.gone)).1 (moveE s (s1.put L s.gone)).2 what n m := by
  refine ⟨fun h0 => ?_, fun h0 => ?_⟩
  · rw [moveE, if_neg h0]; exact ⟨rfl, rfl⟩
  · rw [moveE, if_pos h0]
    obtain ⟨w, h', hr⟩ := right_of h0
    have f := hL w h' hr
    have hw2 := f.w2
    have hh1 := f.h1
    have hh2 := f.h2
    have hfl := f.len
    refine ⟨rfl, s1, L, w, f.row, fun e => by rw [e] at hfl; simp at hfl; omega, f.w1, by omega, by omega, ?_, fun d bt bo gx l hl hgx => ?_⟩
    · have e1 : s1.g.w = w := hw.trans hr.fit.ew
      have e2 : s1.g.h = (L.length : Int) := by rw [hh, hr.fit.eh, hfl]
      rw [Scr.put, ← hgn, ← e1, ← e2]
    · refine ACalls.lendW (h h0 w h' hr d (.sl 4 (s.g.cs.map encCell)) (.rsl bt 1 0 s.tabs.length) (goneV gx s.gone.length) bo l hl) (ρ := ⟨bt, .row 1 (s.tabs.map PV.bool) 0⟩ :: goneM gx (s.gone.map encRow)) ?_ ?_
      · rw [List.append_nil, deskM]
        refine List.Perm.cons _ ?_
        exact List.perm_append_comm (l₁ := _ :: _) (l₂ := rowsM bo l)
      · rintro v σ1 ⟨l', hl', rfl, hm⟩
        refine ⟨deskM d bt bo gx l' (s.g.cs.map encCell) s1 ++ [], ?_, rfl, hl' ▸ desk_of d bt bo gx l' _ s1 (fun e => by rw [hgn]; exact hgx e) []⟩
        obtain ⟨q, hq⟩ := hm
        rw [List.append_nil]
        refine ⟨q, (hq.append_right _).trans ?_⟩
        rw [deskM, ht, hgn]
        refine List.Perm.cons _ ?_
        show ((rowsM bo l' ++ q) ++ (⟨bt, .row 1 (s.tabs.map PV.bool) 0⟩ :: goneM gx (s.gone.map encRow))).Perm ((⟨bt, .row 1 (s.tabs.map PV.bool) 0⟩ :: goneM gx (s.gone.map encRow)) ++ rowsM bo l' ++ q)
        rw [List.append_assoc, List.append_assoc]
        refine List.Perm.trans (List.perm_append_comm (l₁ := rowsM bo l')) ?_
        refine List.Perm.trans (List.Perm.append_right _ (List.perm_append_comm (l₁ := q))) ?_
        rw [List.append_assoc]
        exact List.Perm.append_left _ List.perm_append_comm
theorem at_rows {s : Scr} {w h : Nat} (f : RowsOk s.g.rows w h) (hy : 0 ≤ s.y ∧ s.y < h) : ∃ row, s.g.rows[s.y.toNat]? = some row ∧ row.length = w := by
  obtain ⟨row, h1, h2⟩ := f.at (y := s.y.toNat) (by omega)
  exact ⟨row, h1, h2⟩
theorem actLine_ok (s : Scr) (kind m : Int) {w h : Nat} (hr : s.right w h) {row : List Cell} (hrow : s.g.rows[s.y.toNat]? = some row) (d : Nat) (cv tv gv : PV) (bo : Nat) (l : Fam) (hl : l.map Prod.snd = s.g.rows) :
    ACalls Tryd.prog W 75 (actArgs [108, 105, 110, 101] kind m d) (dM d cv tv gv bo l s) (Gives (fun _ : Fam => .tup []) (fun l' => dM d cv tv gv bo l' { s with late := false }) (fun l' => l'.map Prod.snd = s.g.rows.set s.y.toNat (lineR s kind row))) := by
  have f := rowsOk_of hr
  have hli := dline_ok W d cv tv gv bo l { s with late := false } (w := w) (h := h) (hl ▸ f) hr.fit.ew hr.x hr.y kind (row := row) (by rw [hl]; exact hrow)
  rw [hl, show lineR { s with late := false } kind row = lineR s kind row from rfl] at hli
  clear f hr
  refine acalls_of_vc (DL_ok (by decide)) Tryd.func75 rfl (by decide) (by decide) rfl ?_
  (refine g0_ ?_; repeat ((first | refine n1_ fun b_ => ?_ | refine n2_ fun b_ => ?_ | refine n3_ fun b_ pre_ => ?_ | refine Nat1.mk fun q_ hq_ => ?_ | refine em_ fun x_ hx_ => ?_ | refine Elem1.mk fun e_ he_ => ?_); refine g0_ ?_))
  refine ACalls.lend hli (r := []) (by rw [List.append_nil (dM d cv tv gv bo l { s with late := false })]; exact .refl _) ?_
  rintro l' hl'
  rw [List.append_nil (dM d cv tv gv bo l' { s with late := false })]
  (refine g0_ ?_; repeat ((first | refine n1_ fun b_ => ?_ | refine n2_ fun b_ => ?_ | refine n3_ fun b_ pre_ => ?_ | refine Nat1.mk fun q_ hq_ => ?_ | refine em_ fun x_ hx_ => ?_ | refine Elem1.mk fun e_ he_ => ?_); refine g0_ ?_))
  exact ⟨l', hl', rfl, wkMem.rfl'⟩
def charsK (s : Scr) (n : Int) : Nat := (min (max n 1) s.g.w).toNat
def charsS (s : Scr) (n : Int) : Scr := ({ s with late := false } : Scr).put (s.g.rows.modify s.y.toNat (clearR s.look.back s.x.toNat (charsK s n))) s.gone
theorem actChars_ok (s : Scr) (n m : Int) {w h : Nat} (hr : s.right w h) {row : List Cell} (hrow : s.g.rows[s.y.toNat]? = some row) (d : Nat) (cv tv gv : PV) (bo : Nat) (l : Fam) (hl : l.map Prod.snd = s.g.rows) :
    ACalls Tryd.prog W 75 (actArgs [99, 104, 97, 114, 115] n m d) (dM d cv tv gv bo l s) (Gives (fun _ : Fam => .tup []) (fun l' => dM d cv tv gv bo l' { s with late := false }) (fun l' => l'.map Prod.snd = s.g.rows.set s.y.toNat (clearR s.look.back s.x.toNat (charsK s n) row))) := by
  have f := rowsOk_of hr
  have hw2 := hr.fit.w2
  have hw1 := hr.fit.w1
  have hh2 := hr.fit.h2
  have hx := hr.x
  have hy := hr.y
  have hgw := hr.fit.ew
  obtain ⟨x, hx'⟩ := Int.eq_ofNat_of_zero_le hx.1
  obtain ⟨y, hy'⟩ := Int.eq_ofNat_of_zero_le hy.1
  obtain ⟨k, hk⟩ : ∃ k : Nat, (k : Int) = min (max n 1) w := ⟨(min (max n 1) w).toNat, by omega⟩
  have hck : charsK s n = k := by rw [charsK, hgw]; omega
  have hyN : s.y.toNat = y := by omega
  have hxN : s.x.toNat = x := by omega
  rw [hck, hyN, hxN]
  rw [hyN] at hrow
  obtain ⟨p, hp, rfl⟩ : ∃ p, l[y]? = some p ∧ p.2 = row := by
    rw [← hl, List.getElem?_map] at hrow
    obtain ⟨p, hp, rfl⟩ := Option.map_eq_some_iff.1 hrow
    exact ⟨p, hp, rfl⟩
  have hll : l.length = h := by have := congrArg List.length hl; rwa [List.length_map, f.len] at this
  have hpl : p.2.length = w := f.row _ (List.mem_of_getElem? hrow)
  have hwp := dwipe_ok W d cv tv gv bo l { s with late := false } hgw hw1 hw2 y x (x + k) p hp hpl (by omega) (by omega) (by omega)
  rw [show (PV.int .i64 (y : Int)) = .int .i64 s.y by rw [hy'], show (PV.int .i64 (x : Int)) = .int .i64 s.x by rw [hx'], show (PV.int .i64 ((x + k : Nat) : Int)) = .int .i64 (s.x + min (max n 1) s.g.w) by rw [hx', hgw, ← hk]; rfl] at hwp
  clear f hr
  refine acalls_of_vc (DL_ok (by decide)) Tryd.func75 rfl (by decide) (by decide) rfl ?_
  (refine g0_ ?_; repeat ((first | refine n1_ fun b_ => ?_ | refine n2_ fun b_ => ?_ | refine n3_ fun b_ pre_ => ?_ | refine Nat1.mk fun q_ hq_ => ?_ | refine em_ fun x_ hx_ => ?_ | refine Elem1.mk fun e_ he_ => ?_); refine g0_ ?_))
  refine headL_ (Draws.head ⟨26, by decide +kernel, ?_⟩); (refine g0_ ?_; repeat ((first | refine n1_ fun b_ => ?_ | refine n2_ fun b_ => ?_ | refine n3_ fun b_ pre_ => ?_ | refine Nat1.mk fun q_ hq_ => ?_ | refine em_ fun x_ hx_ => ?_ | refine Elem1.mk fun e_ he_ => ?_); refine g0_ ?_))
  simp only [ifmin, ifmax]
  refine ACalls.lend hwp (r := []) (by rw [List.append_nil (dM d cv tv gv bo l { s with late := false })]; exact .refl _) ?_
  rintro b' -
  rw [List.append_nil]
  (refine g0_ ?_; repeat ((first | refine n1_ fun b_ => ?_ | refine n2_ fun b_ => ?_ | refine n3_ fun b_ pre_ => ?_ | refine Nat1.mk fun q_ hq_ => ?_ | refine em_ fun x_ hx_ => ?_ | refine Elem1.mk fun e_ he_ => ?_); refine g0_ ?_))
  refine ⟨l.set y (b', mendL (fillRow (blankB s.look.back) x (x + k : Nat) p.2)), ?_, rfl, wkMem.rfl'⟩
  show List.map Prod.snd (l.set y (b', mendL (fillRow (blankB s.look.back) x (x + k : Nat) p.2))) = _
  rw [fam_set, hl]; rfl
theorem actScreen_ok (s : Scr) (kind m : Int) (hk : kind ≤ 2) {w h : Nat} (hr : s.right w h) {row : List Cell} (hrow : s.g.rows[s.y.toNat]? = some row) (d : Nat) (cv tv gv : PV) (bo : Nat) (l : Fam) (hl : l.map Prod.snd = s.g.rows) :
    ACalls Tryd.prog W 75 (actArgs [115, 99, 114, 101, 101, 110] kind m d) (dM d cv tv gv bo l s) (Gives (fun _ : Fam => .tup []) (fun l' => dM d cv tv gv bo l' { s with late := false }) (fun l' => l'.map Prod.snd = wipeR s kind s.g.rows)) := by
  have f := rowsOk_of hr
  have hw2 := hr.fit.w2
  have hw1 := hr.fit.w1
  have hh2 := hr.fit.h2
  have hx := hr.x
  have hy := hr.y
  have hgw := hr.fit.ew
  have hrl := f.row row (List.mem_of_getElem? hrow)
  have hli := dline_ok W d cv tv gv bo l { s with late := false } (w := w) (h := h) (hl ▸ f) hr.fit.ew hr.x hr.y kind (row := row) (by rw [hl]; exact hrow)
  rw [hl, show lineR { s with late := false } kind row = lineR s kind row from rfl] at hli
  obtain ⟨y, hy'⟩ := Int.eq_ofNat_of_zero_le hy.1
  have hyN : s.y.toNat = y := by omega
  have hwR : wipeR s kind s.g.rows = (s.g.rows.set y (lineR s kind row)).mapIdx (wipeP s kind) := by rw [wipeR, modify_set hrow, hyN]
  have f1 : RowsOk (s.g.rows.set y (lineR s kind row)) w h := f.set y (by rw [lineR_len, hrl])
  have hll : l.length = h := by have := congrArg List.length hl; rwa [List.length_map, f.len] at this
  rw [hwR]
  simp only [hyN] at hli
  clear hwR hyN hrow
  generalize s.g.rows.set y (lineR s kind row) = L1 at *
  have hP : ∀ k r, wipeP s kind k r = if wipeC s kind k then List.replicate w (blankB s.look.back) else r := fun k r => by rw [wipeP, hgw, Int.toNat_natCast]
  have hC : ∀ k : Nat, wipeC s kind k = decide (kind = 2 ∨ (kind ≤ 0 ∧ (y : Int) < k) ∨ (kind = 1 ∧ (k : Int) < y)) := fun k => by rw [wipeC, hy']
  generalize wipeP s kind = P at *
  generalize wipeC s kind = C at *
  obtain ⟨lo, hlo⟩ : ∃ lo : Fam, lo.length = h := ⟨l, hll⟩
  have hdm : ∀ l'' : Fam, l''.length = h → dM d cv tv gv bo l'' { s with late := false } = [dskB d cv tv gv (.rsl bo 1 0 lo.length) { s with late := false }] ++ (⟨bo, .row 1 (l''.map (rowP 4)) 0⟩ :: (famM 4 encCell l'' ++ [])) := fun l'' h'' => by
    show [dskB d cv tv gv (.rsl bo 1 0 l''.length) _] ++ _ = _
    rw [h'', ← hlo]
  clear f hr
  refine acalls_of_vc (DL_ok (by decide)) Tryd.func75 rfl (by decide) (by decide) rfl ?_
  (refine g0_ ?_; repeat ((first | refine n1_ fun b_ => ?_ | refine n2_ fun b_ => ?_ | refine n3_ fun b_ pre_ => ?_ | refine Nat1.mk fun q_ hq_ => ?_ | refine em_ fun x_ hx_ => ?_ | refine Elem1.mk fun e_ he_ => ?_); refine g0_ ?_))
  (refine g1_ ?_; repeat ((first | refine n1_ fun b_ => ?_ | refine n2_ fun b_ => ?_ | refine n3_ fun b_ pre_ => ?_ | refine Nat1.mk fun q_ hq_ => ?_ | refine em_ fun x_ hx_ => ?_ | refine Elem1.mk fun e_ he_ => ?_); refine g1_ ?_))
  refine ACalls.lend hli (r := []) (by rw [List.append_nil (dM d cv tv gv bo l { s with late := false })]; exact .refl _) ?_
  rintro l1 hl1
  rw [List.append_nil (dM d cv tv gv bo l1 { s with late := false })]
  have hl1l : l1.length = h := by have := congrArg List.length hl1; rwa [List.length_map, f1.len] at this
  rw [hdm l1 hl1l]
  (refine g0_ ?_; repeat ((first | refine n1_ fun b_ => ?_ | refine n2_ fun b_ => ?_ | refine n3_ fun b_ pre_ => ?_ | refine Nat1.mk fun q_ hq_ => ?_ | refine em_ fun x_ hx_ => ?_ | refine Elem1.mk fun e_ he_ => ?_); refine g0_ ?_))
  refine' loopI (α := Nat × Fam) (fun (i, l') => [(356, .int .i64 i)]) [(0, _), (2, _), (355, _)] (fun (i, l') => [dskB d cv tv gv (.rsl bo 1 0 lo.length) { s with late := false }] ++ (⟨bo, .row 1 (l'.map (rowP 4)) 0⟩ :: (famM 4 encCell l' ++ []))) (fun (i, l') => i ≤ h ∧ l'.map Prod.snd = upto P i L1) (fun (i, l') => h - i) (0, l1) ?_ ?_
  · exact ⟨Nat.zero_le _, by rw [upto_zero, hl1]⟩
  rintro ⟨i, l'⟩ ⟨hi, hl'⟩
  dsimp only at hi hl' ⊢
  have hl'l : l'.length = h := by have := congrArg List.length hl'; rwa [List.length_map, upto_len, f1.len] at this
  by_cases hih : i < h
  · obtain ⟨e, hd, hdl⟩ := f1.at hih
    obtain ⟨p, hp⟩ : ∃ p, l'[i]? = some p := ⟨_, List.getElem?_eq_getElem (by omega)⟩
    have hp0 : l'[0 + i]? = some p := by rwa [Nat.zero_add]
    have no : (¬ (kind = 2 ∨ (kind ≤ 0 ∧ (y : Int) < i) ∨ (kind = 1 ∧ (i : Int) < y))) → P i e = e := fun hn => by rw [hP, hC, if_neg]; simpa using hn
    have yes : (kind = 2 ∨ (kind ≤ 0 ∧ (y : Int) < i) ∨ (kind = 1 ∧ (i : Int) < y)) → P i e = List.replicate w (blankB s.look.back) := fun hn => by rw [hP, hC, if_pos]; simpa using hn
    have hyy : ({ s with late := false } : Scr).y = y := hy'
    by_cases k0 : kind ≤ 0
    · by_cases hc : (y : Int) < i
      · have hq := yes (by omega)
        (refine g1_ ?_; repeat ((first | refine n1_ fun b_ => ?_ | refine n2_ fun b_ => ?_ | refine n3_ fun b_ pre_ => ?_ | refine Nat1.mk fun q_ hq_ => ?_ | refine em_ fun x_ hx_ => ?_ | refine Elem1.mk fun e_ he_ => ?_); refine g1_ ?_))
        refine Draws10.chain ⟨7, [.new, .new, .new, .new, .new, .new, .turn], [(6, [.again, .again, .again, .again, .again, .keep, .keep])], by decide +kernel, ?_⟩; (refine g0_ ?_; repeat ((first | refine n1_ fun b_ => ?_ | refine n2_ fun b_ => ?_ | refine n3_ fun b_ pre_ => ?_ | refine Nat1.mk fun q_ hq_ => ?_ | refine em_ fun x_ hx_ => ?_ | refine Elem1.mk fun e_ he_ => ?_); refine g0_ ?_))
        refine ACalls.lend (dempty_ok W d cv tv gv (.rsl bo 1 0 lo.length) { s with late := false } hgw hw1 hw2) (r := ⟨bo, .row 1 (l'.map (rowP 4)) 0⟩ :: (famM 4 encCell l' ++ [])) (.refl _) ?_
        rintro b' -
        (refine g0_ ?_; repeat ((first | refine n1_ fun b_ => ?_ | refine n2_ fun b_ => ?_ | refine n3_ fun b_ pre_ => ?_ | refine Nat1.mk fun q_ hq_ => ?_ | refine em_ fun x_ hx_ => ?_ | refine Elem1.mk fun e_ he_ => ?_); refine g0_ ?_))
        rw [show (l'.map (rowP 4)).set (0 + i) (.rsl b' 4 0 w) = (l'.set i (b', List.replicate w (blankB s.look.back))).map (rowP 4) by rw [Nat.zero_add, List.map_set, rowP, List.length_replicate]]
        refine nx_ (i + 1, l'.set i (b', List.replicate w (blankB s.look.back))) ?_ ?_
        · exact ⟨hih, by rw [fam_set, hl', upto_set hd, hq]⟩
        · show h - (i + 1) < h - i
          omega
      · have hq := no (by omega)
        (refine g1_ ?_; repeat ((first | refine n1_ fun b_ => ?_ | refine n2_ fun b_ => ?_ | refine n3_ fun b_ pre_ => ?_ | refine Nat1.mk fun q_ hq_ => ?_ | refine em_ fun x_ hx_ => ?_ | refine Elem1.mk fun e_ he_ => ?_); refine g1_ ?_))
        refine nx_ (i + 1, l') ?_ ?_
        · exact ⟨hih, by rw [upto_same hd hq, hl']⟩
        · show h - (i + 1) < h - i
          omega
    · by_cases k1 : kind = 1
      · by_cases hc : (i : Int) < y
        · have hq := yes (by omega)
          (refine g1_ ?_; repeat ((first | refine n1_ fun b_ => ?_ | refine n2_ fun b_ => ?_ | refine n3_ fun b_ pre_ => ?_ | refine Nat1.mk fun q_ hq_ => ?_ | refine em_ fun x_ hx_ => ?_ | refine Elem1.mk fun e_ he_ => ?_); refine g1_ ?_))
          refine Draws10.chain ⟨7, [.new, .new, .new, .new, .new, .new, .turn], [(6, [.again, .again, .again, .again, .again, .keep, .keep])], by decide +kernel, ?_⟩; (refine g0_ ?_; repeat ((first | refine n1_ fun b_ => ?_ | refine n2_ fun b_ => ?_ | refine n3_ fun b_ pre_ => ?_ | refine Nat1.mk fun q_ hq_ => ?_ | refine em_ fun x_ hx_ => ?_ | refine Elem1.mk fun e_ he_ => ?_); refine g0_ ?_))
          refine ACalls.lend (dempty_ok W d cv tv gv (.rsl bo 1 0 lo.length) { s with late := false } hgw hw1 hw2) (r := ⟨bo, .row 1 (l'.map (rowP 4)) 0⟩ :: (famM 4 encCell l' ++ [])) (.refl _) ?_
          rintro b' -
          (refine g0_ ?_; repeat ((first | refine n1_ fun b_ => ?_ | refine n2_ fun b_ => ?_ | refine n3_ fun b_ pre_ => ?_ | refine Nat1.mk fun q_ hq_ => ?_ | refine em_ fun x_ hx_ => ?_ | refine Elem1.mk fun e_ he_ => ?_); refine g0_ ?_))
          rw [show (l'.map (rowP 4)).set (0 + i) (.rsl b' 4 0 w) = (l'.set i (b', List.replicate w (blankB s.look.back))).map (rowP 4) by rw [Nat.zero_add, List.map_set, rowP, List.length_replicate]]
          refine nx_ (i + 1, l'.set i (b', List.replicate w (blankB s.look.back))) ?_ ?_
          · exact ⟨hih, by rw [fam_set, hl', upto_set hd, hq]⟩
          · show h - (i + 1) < h - i
            omega
        · have hq := no (by omega)
          (refine g1_ ?_; repeat ((first | refine n1_ fun b_ => ?_ | refine n2_ fun b_ => ?_ | refine n3_ fun b_ pre_ => ?_ | refine Nat1.mk fun q_ hq_ => ?_ | refine em_ fun x_ hx_ => ?_ | refine Elem1.mk fun e_ he_ => ?_); refine g1_ ?_))
          refine nx_ (i + 1, l') ?_ ?_
          · exact ⟨hih, by rw [upto_same hd hq, hl']⟩
          · show h - (i + 1) < h - i
            omega
      · have hq := yes (by omega)
        (refine g1_ ?_; repeat ((first | refine n1_ fun b_ => ?_ | refine n2_ fun b_ => ?_ | refine n3_ fun b_ pre_ => ?_ | refine Nat1.mk fun q_ hq_ => ?_ | refine em_ fun x_ hx_ => ?_ | refine Elem1.mk fun e_ he_ => ?_); refine g1_ ?_))
        refine Draws10.chain ⟨7, [.new, .new, .new, .new, .new, .new, .turn], [(6, [.again, .again, .again, .again, .again, .keep, .keep])], by decide +kernel, ?_⟩; (refine g0_ ?_; repeat ((first | refine n1_ fun b_ => ?_ | refine n2_ fun b_ => ?_ | refine n3_ fun b_ pre_ => ?_ | refine Nat1.mk fun q_ hq_ => ?_ | refine em_ fun x_ hx_ => ?_ | refine Elem1.mk fun e_ he_ => ?_); refine g0_ ?_))
        refine ACalls.lend (dempty_ok W d cv tv gv (.rsl bo 1 0 lo.length) { s with late := false } hgw hw1 hw2) (r := ⟨bo, .row 1 (l'.map (rowP 4)) 0⟩ :: (famM 4 encCell l' ++ [])) (.refl _) ?_
        rintro b' -
        (refine g0_ ?_; repeat ((first | refine n1_ fun b_ => ?_ | refine n2_ fun b_ => ?_ | refine n3_ fun b_ pre_ => ?_ | refine Nat1.mk fun q_ hq_ => ?_ | refine em_ fun x_ hx_ => ?_ | refine Elem1.mk fun e_ he_ => ?_); refine g0_ ?_))
        rw [show (l'.map (rowP 4)).set (0 + i) (.rsl b' 4 0 w) = (l'.set i (b', List.replicate w (blankB s.look.back))).map (rowP 4) by rw [Nat.zero_add, List.map_set, rowP, List.length_replicate]]
        refine nx_ (i + 1, l'.set i (b', List.replicate w (blankB s.look.back))) ?_ ?_
        · exact ⟨hih, by rw [fam_set, hl', upto_set hd, hq]⟩
        · show h - (i + 1) < h - i
          omega
  · have hih' : h ≤ i := by omega
    rw [upto_end (by rw [f1.len]; exact hih')] at hl'
    (refine g1_ ?_; repeat ((first | refine n1_ fun b_ => ?_ | refine n2_ fun b_ => ?_ | refine n3_ fun b_ pre_ => ?_ | refine Nat1.mk fun q_ hq_ => ?_ | refine em_ fun x_ hx_ => ?_ | refine Elem1.mk fun e_ he_ => ?_); refine g1_ ?_))
    refine ⟨l', hl', rfl, ?_⟩
    show wkMem _ (dM d cv tv gv bo l' { s with late := false })
    rw [hdm l' hl'l]
    exact wkMem.rfl'
def noGone (s : Scr) : Scr := { s with gone := [] }
def wipeScrE (s : Scr) (kind : Int) : Scr := if 3 < kind then s else if kind = 3 then noGone s else wipeScrS s kind
/-- What is gone goes. -/
theorem actOp_gone {s : Scr} (what : List UInt8) (n m : Int)
    (h : checkS s = 0 → ∀ (d : Nat) (cv tv gv lv : PV), ACalls Tryd.prog W 75 (actArgs what n m d) [dskB d cv tv gv lv s] (Gives (fun _ : Unit => .tup []) (fun _ => [dskB d cv tv .nils lv (noGone s)]) (fun _ => True))) :
    ActOp W s (moveE s (noGone s)).1 (moveE s (noGone s)).2 what n m := by
  refine ⟨fun h0 => ?_, fun h0 => ?_⟩
  · rw [moveE, if_neg h0]; exact ⟨rfl, rfl⟩
  · rw [moveE, if_pos h0]
    obtain ⟨w, h', hr⟩ := right_of h0
    have f := hr.fit
    have hw2 := f.w2
    have hh1 := f.h1
    have hh2 := f.h2
    refine ⟨rfl, noGone s, s.g.rows, w, f.row, fun e => ?_, f.w1, by rw [f.rlen]; omega, by omega, ?_, fun d bt bo gx l hl hgx => ?_⟩
    · have := f.rlen
      rw [e] at this; simp at this; omega
    · rw [f.rlen, f.flat]
      have e : (⟨w, h', s.g.cs⟩ : Grid) = (noGone s).g := by rw [← f.ew, ← f.eh]; rfl
      rw [e]
    · refine ACalls.lendW (h h0 d (.sl 4 (s.g.cs.map encCell)) (.rsl bt 1 0 s.tabs.length) (goneV gx s.gone.length) (.rsl bo 1 0 l.length)) (ρ := ⟨bt, .row 1 (s.tabs.map PV.bool) 0⟩ :: (goneM gx (s.gone.map encRow) ++ rowsM bo l)) (by rw [List.append_nil]; exact .refl _) ?_
      rintro v σ1 ⟨_, -, rfl, hm⟩
      refine ⟨dskB d (.sl 4 (s.g.cs.map encCell)) (.rsl bt 1 0 s.tabs.length) .nils (.rsl bo 1 0 l.length) (noGone s) :: (⟨bt, .row 1 (s.tabs.map PV.bool) 0⟩ :: (goneM gx (s.gone.map encRow) ++ rowsM bo l)), ?_, rfl, _, bt, _, .nils, bo, _, _, .refl _, .inl rfl, ?_, .nils _, ?_⟩
      · obtain ⟨q, hq⟩ := hm
        refine ⟨q, (hq.append_right _).trans ?_⟩
        rw [List.append_assoc, List.cons_append, List.nil_append]
        exact List.Perm.cons _ List.perm_append_comm
      · exact frz_row (l := s.tabs.map PV.bool) (.here _ _ _) _ (by simp)
      · refine frz_sub (fun k hk => ?_) (hl ▸ frz_rowsM bo l)
        exact List.mem_cons_of_mem _ (List.mem_append_right _ hk)
theorem actScreen3_ok (s : Scr) (m : Int) (h0 : checkS s = 0) (d : Nat) (cv tv gv lv : PV) : ACalls Tryd.prog W 75 (actArgs [115, 99, 114, 101, 101, 110] 3 m d) [dskB d cv tv gv lv s] (Gives (fun _ : Unit => .tup []) (fun _ => [dskB d cv tv .nils lv (noGone s)]) (fun _ => True)) := by
  clear h0
  rw [noGone]
  obtain ⟨⟨gw, gh, cs⟩, X, Y, late, ⟨fo, ba, bi⟩, tp, bo, modes, tabs, kx, ky, ⟨f2, b2', bi2⟩, km, last, title, gone⟩ := s
  dsimp only
  rw [dskB_eq, dskB_eq]
  refine acalls_of_vc (DL_ok (by decide)) Tryd.func75 rfl (by decide) (by decide) rfl ?_
  (refine g0_ ?_; repeat ((first | refine n1_ fun b_ => ?_ | refine n2_ fun b_ => ?_ | refine n3_ fun b_ pre_ => ?_ | refine Nat1.mk fun q_ hq_ => ?_ | refine em_ fun x_ hx_ => ?_ | refine Elem1.mk fun e_ he_ => ?_); refine g0_ ?_))
  (refine g1_ ?_; repeat ((first | refine n1_ fun b_ => ?_ | refine n2_ fun b_ => ?_ | refine n3_ fun b_ pre_ => ?_ | refine Nat1.mk fun q_ hq_ => ?_ | refine em_ fun x_ hx_ => ?_ | refine Elem1.mk fun e_ he_ => ?_); refine g1_ ?_))
  exact ⟨(), trivial, rfl, by (first | exact ⟨_, .refl _⟩ | exact wkMem.rfl' | exact ⟨_, .swap _ _ _⟩ | (repeat (first | exact wkMem.nil _ | exact wkMem.rfl' | exact wk_snoc _ _ _ | exact wk_fam (by assumption) _ _ _ | exact wk_famN (by assumption) _ _ _ | (apply wkMem.cons; (case' hl => (repeat (first | exact .here _ _ _ | apply Look.there)))) | apply wkMem.skip)))⟩
theorem actScreen4_ok (s : Scr) (kind m : Int) (hk : 3 < kind) (d : Nat) (cv tv gv lv : PV) : ACalls Tryd.prog W 75 (actArgs [115, 99, 114, 101, 101, 110] kind m d) [dskB d cv tv gv lv s] (Gives (fun _ : Unit => .tup []) (fun _ => [dskB d cv tv gv lv s]) (fun _ => True)) := by
  refine acalls_of_vc (DL_ok (by decide)) Tryd.func75 rfl (by decide) (by decide) rfl ?_
  (refine g0_ ?_; repeat ((first | refine n1_ fun b_ => ?_ | refine n2_ fun b_ => ?_ | refine n3_ fun b_ pre_ => ?_ | refine Nat1.mk fun q_ hq_ => ?_ | refine em_ fun x_ hx_ => ?_ | refine Elem1.mk fun e_ he_ => ?_); refine g0_ ?_))
  (refine g1_ ?_; repeat ((first | refine n1_ fun b_ => ?_ | refine n2_ fun b_ => ?_ | refine n3_ fun b_ pre_ => ?_ | refine Nat1.mk fun q_ hq_ => ?_ | refine em_ fun x_ hx_ => ?_ | refine Elem1.mk fun e_ he_ => ?_); refine g1_ ?_))
  exact ⟨(), trivial, rfl, by (first | exact ⟨_, .refl _⟩ | exact wkMem.rfl' | exact ⟨_, .swap _ _ _⟩ | (repeat (first | exact wkMem.nil _ | exact wkMem.rfl' | exact wk_snoc _ _ _ | exact wk_fam (by assumption) _ _ _ | exact wk_famN (by assumption) _ _ _ | (apply wkMem.cons; (case' hl => (repeat (first | exact .here _ _ _ | apply Look.there)))) | apply wkMem.skip)))⟩
theorem wscr3_ok (b bc N bn : Nat) (tv gv : PV) (s : Scr) : ACalls Tryd.prog W 108 [.bref b 0, .bref bn 0] [scrB b bc N tv gv s, numB bn 3] (Gives (fun _ : Unit => .tup []) (fun _ => [scrB b bc N tv .nils (noGone s), numB bn 3]) (fun _ => True)) := by
  rw [noGone]
  obtain ⟨⟨gw, gh, cs⟩, X, Y, late, ⟨fo, ba, bi⟩, tp, bo, modes, tabs, kx, ky, ⟨f2, b2', bi2⟩, km, last, title, gone⟩ := s
  dsimp only
  rw [scrB_eq, scrB_eq]
  refine acalls_of_vc (DL_ok (by decide)) Tryd.func108 rfl (by decide) (by decide) rfl ?_
  (refine g0_ ?_; repeat ((first | refine n1_ fun b_ => ?_ | refine n2_ fun b_ => ?_ | refine n3_ fun b_ pre_ => ?_ | refine Nat1.mk fun q_ hq_ => ?_ | refine em_ fun x_ hx_ => ?_ | refine Elem1.mk fun e_ he_ => ?_); refine g0_ ?_))
  (refine g1_ ?_; repeat ((first | refine n1_ fun b_ => ?_ | refine n2_ fun b_ => ?_ | refine n3_ fun b_ pre_ => ?_ | refine Nat1.mk fun q_ hq_ => ?_ | refine em_ fun x_ hx_ => ?_ | refine Elem1.mk fun e_ he_ => ?_); refine g1_ ?_))
  exact ⟨(), trivial, rfl, by (first | exact ⟨_, .refl _⟩ | exact wkMem.rfl' | exact ⟨_, .swap _ _ _⟩ | (repeat (first | exact wkMem.nil _ | exact wkMem.rfl' | exact wk_snoc _ _ _ | exact wk_fam (by assumption) _ _ _ | exact wk_famN (by assumption) _ _ _ | (apply wkMem.cons; (case' hl => (repeat (first | exact .here _ _ _ | apply Look.there)))) | apply wkMem.skip)))⟩
theorem wscr4_ok (b bc N bn : Nat) (tv gv : PV) (s : Scr) (kind : Int) (hk : 3 < kind) : ACalls Tryd.prog W 108 [.bref b 0, .bref bn 0] [scrB b bc N tv gv s, numB bn kind] (Gives (fun _ : Unit => .tup []) (fun _ => [scrB b bc N tv gv s, numB bn kind]) (fun _ => True)) := by
  refine acalls_of_vc (DL_ok (by decide)) Tryd.func108 rfl (by decide) (by decide) rfl ?_
  (refine g0_ ?_; repeat ((first | refine n1_ fun b_ => ?_ | refine n2_ fun b_ => ?_ | refine n3_ fun b_ pre_ => ?_ | refine Nat1.mk fun q_ hq_ => ?_ | refine em_ fun x_ hx_ => ?_ | refine Elem1.mk fun e_ he_ => ?_); refine g0_ ?_))
  (refine g1_ ?_; repeat ((first | refine n1_ fun b_ => ?_ | refine n2_ fun b_ => ?_ | refine n3_ fun b_ pre_ => ?_ | refine Nat1.mk fun q_ hq_ => ?_ | refine em_ fun x_ hx_ => ?_ | refine Elem1.mk fun e_ he_ => ?_); refine g1_ ?_))
  exact ⟨(), trivial, rfl, by (first | exact ⟨_, .refl _⟩ | exact wkMem.rfl' | exact ⟨_, .swap _ _ _⟩ | (repeat (first | exact wkMem.nil _ | exact wkMem.rfl' | exact wk_snoc _ _ _ | exact wk_fam (by assumption) _ _ _ | exact wk_famN (by assumption) _ _ _ | (apply wkMem.cons; (case' hl => (repeat (first | exact .here _ _ _ | apply Look.there)))) | apply wkMem.skip)))⟩
theorem done_none (b bc bt bg : Nat) (s : Scr) (τ : Mem) :
    Done b (noGone s) (scrB b bc s.g.cs.length (.rsl bt 1 0 s.tabs.length) .nils (noGone s) :: (τ ++ scrR bc bt bg [] s)) := by
  refine ⟨bc, _, bt, _, _, τ ++ scrR bc bt bg [] s, .refl _, .inl rfl, ?_, ?_, .nils _⟩
  · exact frz_row (Look.app (.here _ _ _) τ) _ (by simp [noGone])
  · exact frz_row (Look.app (.there _ _ _ _ _ (.here _ _ _)) τ) _ (by simp [noGone])
theorem wipeScreenE_ok (hT : Tabs W) (s : Scr) (hok : s.ok) (kind : Int) : Pure Tryd.prog W 47 [encScr s, .int .i64 kind] (.tup [encScr (moveE s (wipeScrE s kind)).1, .int .i64 (moveE s (wipeScrE s kind)).2]) := by
  by_cases k4 : 3 < kind
  · rw [wipeScrE, if_pos k4]
    by_cases h0 : checkS s = 0
    · rw [moveE, if_pos h0]
      refine Pure.of (acalls_of_vc (drawOk W) Tryd.func47 rfl (by decide) (by decide) rfl ?_)
      (refine g0_ ?_; repeat ((first | refine n1_ fun b_ => ?_ | refine n2_ fun b_ => ?_ | refine n3_ fun b_ pre_ => ?_ | refine Nat1.mk fun q_ hq_ => ?_ | refine em_ fun x_ hx_ => ?_ | refine Elem1.mk fun e_ he_ => ?_); refine g0_ ?_))
      rename_i bn
      refine ACalls.lendF (change_ok W hT s hok h0 108 [.bref bn 0] [numB bn kind] s (fun b bc bt bg => ?_)) (.swap _ _ _) ?_
      · refine ACalls.lend (wscr4_ok W b bc s.g.cs.length bn (.rsl bt 1 0 s.tabs.length) (.rsl bg 1 0 s.gone.length) s kind k4) (r := scrR bc bt bg [] s) ?_ ?_
        · exact (List.perm_append_comm (l₁ := scrR bc bt bg [] s) (l₂ := [numB bn kind])).cons _
        · rintro _ -
          exact ⟨rfl, done_plain b bc bt bg s s rfl rfl rfl _⟩
      · (refine g0_ ?_; repeat ((first | refine n1_ fun b_ => ?_ | refine n2_ fun b_ => ?_ | refine n3_ fun b_ pre_ => ?_ | refine Nat1.mk fun q_ hq_ => ?_ | refine em_ fun x_ hx_ => ?_ | refine Elem1.mk fun e_ he_ => ?_); refine g0_ ?_))
        exact .refl _
    · rw [moveE, if_neg h0]
      have hb := change_bad W hT s hok h0
      refine Pure.of (acalls_of_vc (drawOk W) Tryd.func47 rfl (by decide) (by decide) rfl ?_)
      (refine g0_ ?_; repeat ((first | refine n1_ fun b_ => ?_ | refine n2_ fun b_ => ?_ | refine n3_ fun b_ pre_ => ?_ | refine Nat1.mk fun q_ hq_ => ?_ | refine em_ fun x_ hx_ => ?_ | refine Elem1.mk fun e_ he_ => ?_); refine g0_ ?_))
      rename_i bn
      refine (hb 108 [.bref bn 0]).use ?_
      (refine g0_ ?_; repeat ((first | refine n1_ fun b_ => ?_ | refine n2_ fun b_ => ?_ | refine n3_ fun b_ pre_ => ?_ | refine Nat1.mk fun q_ hq_ => ?_ | refine em_ fun x_ hx_ => ?_ | refine Elem1.mk fun e_ he_ => ?_); refine g0_ ?_))
      exact .refl _
  · by_cases k3 : kind = 3
    · subst k3
      rw [wipeScrE, if_neg k4, if_pos rfl]
      by_cases h0 : checkS s = 0
      · rw [moveE, if_pos h0]
        refine Pure.of (acalls_of_vc (drawOk W) Tryd.func47 rfl (by decide) (by decide) rfl ?_)
        (refine g0_ ?_; repeat ((first | refine n1_ fun b_ => ?_ | refine n2_ fun b_ => ?_ | refine n3_ fun b_ pre_ => ?_ | refine Nat1.mk fun q_ hq_ => ?_ | refine em_ fun x_ hx_ => ?_ | refine Elem1.mk fun e_ he_ => ?_); refine g0_ ?_))
        rename_i bn
        refine ACalls.lendF (change_ok W hT s hok h0 108 [.bref bn 0] [numB bn 3] (noGone s) (fun b bc bt bg => ?_)) (.swap _ _ _) ?_
        · refine ACalls.lend (wscr3_ok W b bc s.g.cs.length bn (.rsl bt 1 0 s.tabs.length) (.rsl bg 1 0 s.gone.length) s) (r := scrR bc bt bg [] s) ?_ ?_
          · exact (List.perm_append_comm (l₁ := scrR bc bt bg [] s) (l₂ := [numB bn 3])).cons _
          · rintro _ -
            exact ⟨rfl, done_none b bc bt bg s [numB bn 3]⟩
        · (refine g0_ ?_; repeat ((first | refine n1_ fun b_ => ?_ | refine n2_ fun b_ => ?_ | refine n3_ fun b_ pre_ => ?_ | refine Nat1.mk fun q_ hq_ => ?_ | refine em_ fun x_ hx_ => ?_ | refine Elem1.mk fun e_ he_ => ?_); refine g0_ ?_))
          exact .refl _
      · rw [moveE, if_neg h0]
        have hb := change_bad W hT s hok h0
        refine Pure.of (acalls_of_vc (drawOk W) Tryd.func47 rfl (by decide) (by decide) rfl ?_)
        (refine g0_ ?_; repeat ((first | refine n1_ fun b_ => ?_ | refine n2_ fun b_ => ?_ | refine n3_ fun b_ pre_ => ?_ | refine Nat1.mk fun q_ hq_ => ?_ | refine em_ fun x_ hx_ => ?_ | refine Elem1.mk fun e_ he_ => ?_); refine g0_ ?_))
        rename_i bn
        refine (hb 108 [.bref bn 0]).use ?_
        (refine g0_ ?_; repeat ((first | refine n1_ fun b_ => ?_ | refine n2_ fun b_ => ?_ | refine n3_ fun b_ pre_ => ?_ | refine Nat1.mk fun q_ hq_ => ?_ | refine em_ fun x_ hx_ => ?_ | refine Elem1.mk fun e_ he_ => ?_); refine g0_ ?_))
        exact .refl _
    · rw [wipeScrE, if_neg k4, if_neg k3]
      exact wipeScreen_ok W hT s hok kind (by omega)
theorem wchars1_ok (b bc bn : Nat) (tv gv : PV) (s : Scr) {w h : Nat} {L : List (List Cell)} (f : RowsOk L w h) (hw : s.g.w = w) (hh : s.g.h = h) (n : Int) (hx : 0 ≤ s.x ∧ s.x < w) (hy : 0 ≤ s.y ∧ s.y < h) {row : List Cell} (hrow : L[s.y.toNat]? = some row) :
    ACalls Tryd.prog W 110 [.bref b 0, .bref bn 0] [scrB b bc (h * w) tv gv s, ⟨bc, .row 4 (L.flatten.map encCell) 0⟩, numB bn n]
      (Gives (fun _ : Unit => .tup []) (fun _ => [scrB b bc (h * w) tv gv { s with late := false }, ⟨bc, .row 4 ((L.set s.y.toNat (clearR s.look.back s.x.toNat (charsK s n) row)).flatten.map encCell) 0⟩, numB bn n]) (fun _ => True)) := by
  have hw2 := f.w2
  obtain ⟨x, hx'⟩ := Int.eq_ofNat_of_zero_le hx.1
  obtain ⟨y, hy'⟩ := Int.eq_ofNat_of_zero_le hy.1
  obtain ⟨k, hk⟩ : ∃ k : Nat, (k : Int) = min (max n 1) w := ⟨(min (max n 1) w).toNat, by omega⟩
  have hck : charsK s n = k := by rw [charsK, hw]; omega
  have hyN : s.y.toNat = y := by omega
  have hxN : s.x.toNat = x := by omega
  rw [hck, hyN, hxN]
  rw [hyN] at hrow
  have hc := clear_ok W b bc tv gv { s with late := false } f hw hh y x k hrow (by omega) (by omega)
  rw [show (PV.int .i64 (y : Int)) = .int .i64 s.y by rw [hy'], show (PV.int .i64 (x : Int)) = .int .i64 s.x by rw [hx'], show (PV.int .i64 (k : Int)) = .int .i64 (min (max n 1) s.g.w) by rw [hw, ← hk]] at hc
  refine acalls_of_vc (DL_ok (by decide)) Tryd.func110 rfl (by decide) (by decide) rfl ?_
  (refine g0_ ?_; repeat ((first | refine n1_ fun b_ => ?_ | refine n2_ fun b_ => ?_ | refine n3_ fun b_ pre_ => ?_ | refine Nat1.mk fun q_ hq_ => ?_ | refine em_ fun x_ hx_ => ?_ | refine Elem1.mk fun e_ he_ => ?_); refine g0_ ?_))
  refine headL_ (Draws.head ⟨17, by decide +kernel, ?_⟩); (refine g0_ ?_; repeat ((first | refine n1_ fun b_ => ?_ | refine n2_ fun b_ => ?_ | refine n3_ fun b_ pre_ => ?_ | refine Nat1.mk fun q_ hq_ => ?_ | refine em_ fun x_ hx_ => ?_ | refine Elem1.mk fun e_ he_ => ?_); refine g0_ ?_))
  simp only [ifmin, ifmax]
  refine ACalls.lend hc (r := [numB bn n]) (.refl _) ?_
  rintro _ -
  (refine g0_ ?_; repeat ((first | refine n1_ fun b_ => ?_ | refine n2_ fun b_ => ?_ | refine n3_ fun b_ pre_ => ?_ | refine Nat1.mk fun q_ hq_ => ?_ | refine em_ fun x_ hx_ => ?_ | refine Elem1.mk fun e_ he_ => ?_); refine g0_ ?_))
  exact ⟨(), trivial, rfl, wkMem.rfl'⟩
theorem wipeChars_ok (hT : Tabs W) (s : Scr) (hok : s.ok) (n : Int) : Pure Tryd.prog W 48 [encScr s, .int .i64 n] (.tup [encScr (moveE s (charsS s n)).1, .int .i64 (moveE s (charsS s n)).2]) := by
  by_cases h0 : checkS s = 0
  · obtain ⟨w, h, hr⟩ := right_of h0
    have f := rowsOk_of hr
    obtain ⟨row, hrow, hrl⟩ := at_rows f hr.y
    have e : charsS s n = ({ s with late := false } : Scr).put (s.g.rows.set s.y.toNat (clearR s.look.back s.x.toNat (charsK s n) row)) s.gone := by
      rw [charsS, modify_set hrow]
    have fl := (f.set s.y.toNat (r := clearR s.look.back s.x.toNat (charsK s n) row) (by rw [clearR_len, hrl])).flat
    rw [moveE, if_pos h0, e]
    refine Pure.of (acalls_of_vc (drawOk W) Tryd.func48 rfl (by decide) (by decide) rfl ?_)
    (refine g0_ ?_; repeat ((first | refine n1_ fun b_ => ?_ | refine n2_ fun b_ => ?_ | refine n3_ fun b_ pre_ => ?_ | refine Nat1.mk fun q_ hq_ => ?_ | refine em_ fun x_ hx_ => ?_ | refine Elem1.mk fun e_ he_ => ?_); refine g0_ ?_))
    rename_i bn
    refine ACalls.lendF (change_rows W hT s hok h0 hr 110 [.bref bn 0] [numB bn n] { s with late := false } (s.g.rows.set s.y.toNat (clearR s.look.back s.x.toNat (charsK s n) row)) s.gone rfl fl (fun b bc tv bg => ?_)) (.swap _ _ _) ?_
    · refine ACalls.lend (wchars1_ok W b bc bn tv (.rsl bg 1 0 s.gone.length) s f hr.fit.ew hr.fit.eh n hr.x hr.y hrow) (r := [gonB bg [] s.gone]) ?_ ?_
      · exact List.Perm.cons _ (List.Perm.cons _ (.swap _ _ _))
      · rintro _ -
        exact ⟨(bg, []), trivial, rfl, by (first | exact ⟨_, .refl _⟩ | exact wkMem.rfl' | exact ⟨_, .swap _ _ _⟩ | (repeat (first | exact wkMem.nil _ | exact wkMem.rfl' | exact wk_snoc _ _ _ | exact wk_fam (by assumption) _ _ _ | exact wk_famN (by assumption) _ _ _ | (apply wkMem.cons; (case' hl => (repeat (first | exact .here _ _ _ | apply Look.there)))) | apply wkMem.skip)))⟩
    · (refine g0_ ?_; repeat ((first | refine n1_ fun b_ => ?_ | refine n2_ fun b_ => ?_ | refine n3_ fun b_ pre_ => ?_ | refine Nat1.mk fun q_ hq_ => ?_ | refine em_ fun x_ hx_ => ?_ | refine Elem1.mk fun e_ he_ => ?_); refine g0_ ?_))
      exact .refl _
  · rw [moveE, if_neg h0]
    have hb := change_bad W hT s hok h0
    refine Pure.of (acalls_of_vc (drawOk W) Tryd.func48 rfl (by decide) (by decide) rfl ?_)
    (refine g0_ ?_; repeat ((first | refine n1_ fun b_ => ?_ | refine n2_ fun b_ => ?_ | refine n3_ fun b_ pre_ => ?_ | refine Nat1.mk fun q_ hq_ => ?_ | refine em_ fun x_ hx_ => ?_ | refine Elem1.mk fun e_ he_ => ?_); refine g0_ ?_))
    rename_i bn
    refine (hb 110 [.bref bn 0]).use ?_
    (refine g0_ ?_; repeat ((first | refine n1_ fun b_ => ?_ | refine n2_ fun b_ => ?_ | refine n3_ fun b_ pre_ => ?_ | refine Nat1.mk fun q_ hq_ => ?_ | refine em_ fun x_ hx_ => ?_ | refine Elem1.mk fun e_ he_ => ?_); refine g0_ ?_))
    exact .refl _
end Go.Eng.YtgpkedepboenpaaDoor
end

/- The law WipeLine. -/
section
namespace Go.Eng.YtgpkedepboenpaaDoor
open Go Go.Eng Go.Proofs
variable (W : World)
set_option linter.unusedSimpArgs false
set_option maxRecDepth 100000
set_option linter.unusedVariables false
set_option maxHeartbeats 8000000
theorem put_okC {s : Scr} (h : s.ok) {L : List (List Cell)} {w h' : Nat} (f : RowsOk L w h') (hc : ∀ r ∈ L, ∀ c ∈ r, c.ok) : (s.put L s.gone).ok := by
  obtain ⟨⟨g1, g2, g3, g4⟩, h2, h3, h4, h5, h6, h7, h8, h9, h10, h11, h12, h13, h14, h15⟩ := h
  refine ⟨⟨g1, g2, fun c hcc => ?_, ?_⟩, h2, h3, h4, h5, h6, h7, h8, h9, h10, h11, h12, h13, h14, h15⟩
  · obtain ⟨r, hr, hcr⟩ := List.mem_flatten.1 hcc
    exact hc r hr c hcr
  · have := f.flat
    have := f.small
    show L.flatten.length * 32 ≤ _
    omega
theorem late_okS {s : Scr} (h : s.ok) : ({ s with late := false } : Scr).ok := by
  obtain ⟨h1, h2, h3, h4, h5, h6, h7, h8, h9, h10, h11, h12, h13, h14, h15⟩ := h
  exact ⟨h1, h2, h3, h4, h5, h6, h7, h8, h9, h10, h11, h12, h13, h14, h15⟩
theorem rows_cok {s : Scr} (hs : s.ok) (h0 : checkS s = 0) {w h : Nat} (hr : s.right w h) : ∀ r ∈ s.g.rows, ∀ c ∈ r, c.ok := (wkR_of ((check_iff s).1 h0) hs hr.fit).rows.cok
theorem set_cok {L : List (List Cell)} (h : ∀ r ∈ L, ∀ c ∈ r, c.ok) {y : Nat} {r' : List Cell} (h' : ∀ c ∈ r', c.ok) : ∀ r ∈ L.set y r', ∀ c ∈ r, c.ok := fun r hr => by
  rcases List.mem_or_eq_of_mem_set hr with hr | rfl
  · exact h r hr
  · exact h'
theorem noGone_ok {s : Scr} (h : s.ok) : (noGone s).ok := by
  obtain ⟨h1, h2, h3, h4, h5, h6, h7, h8, h9, h10, h11, h12, h13, h14, h15⟩ := h
  exact ⟨h1, h2, h3, h4, h5, h6, h7, h8, h9, h10, h11, h12, h13, h14, by show 0 * 24 ≤ _; omega, fun r hr => by cases hr⟩
theorem lineOp_ok (s : Scr) (hs : s.ok) (kind m : Int) : (moveE s (wipeLineS s kind)).1.ok ∧ ActOp W s (moveE s (wipeLineS s kind)).1 (moveE s (wipeLineS s kind)).2 [108, 105, 110, 101] kind m := by
  by_cases h0 : checkS s = 0
  · obtain ⟨w, h, hr⟩ := right_of h0
    have f := rowsOk_of hr
    obtain ⟨row, hrow, hrl⟩ := at_rows f hr.y
    have hR := (check_iff s).1 h0
    have hc := rows_cok hs h0 hr
    have e : wipeLineS s kind = ({ s with late := false } : Scr).put (s.g.rows.set s.y.toNat (lineR s kind row)) s.gone := by
      rw [wipeLineS, modify_set hrow]
    rw [e]
    refine ⟨moveE_ok hs fun _ => put_okC (late_okS hs) (f.set _ (by rw [lineR_len, hrl])) (set_cok hc (lineR_cok hR.look kind (hc row (List.mem_of_getElem? hrow)))), actOp_rows W (s1 := { s with late := false }) _ kind m rfl rfl rfl rfl (fun w' h' hr' => ?_) fun _ w' h' hr' d cv tv gv bo l hl => actLine_ok W s kind m hr' hrow d cv tv gv bo l hl⟩
    have f' := rowsOk_of hr'
    obtain ⟨row', hrow', hrl'⟩ := at_rows f' hr'.y
    rw [hrow] at hrow'
    cases hrow'
    exact f'.set _ (by rw [lineR_len, hrl'])
  · have e : moveE s (wipeLineS s kind) = (Scr.none, checkS s) := by rw [moveE, if_neg h0]
    rw [e]
    exact ⟨noneS_ok, fun _ => ⟨rfl, rfl⟩, fun h => absurd h h0⟩
theorem charsOp_ok (s : Scr) (hs : s.ok) (n m : Int) : (moveE s (charsS s n)).1.ok ∧ ActOp W s (moveE s (charsS s n)).1 (moveE s (charsS s n)).2 [99, 104, 97, 114, 115] n m := by
  by_cases h0 : checkS s = 0
  · obtain ⟨w, h, hr⟩ := right_of h0
    have f := rowsOk_of hr
    obtain ⟨row, hrow, hrl⟩ := at_rows f hr.y
    have hR := (check_iff s).1 h0
    have hc := rows_cok hs h0 hr
    have e : charsS s n = ({ s with late := false } : Scr).put (s.g.rows.set s.y.toNat (clearR s.look.back s.x.toNat (charsK s n) row)) s.gone := by
      rw [charsS, modify_set hrow]
    rw [e]
    refine ⟨moveE_ok hs fun _ => put_okC (late_okS hs) (f.set _ (by rw [clearR_len, hrl])) (set_cok hc (clear_cok hR.look _ _ (hc row (List.mem_of_getElem? hrow)))), actOp_rows W (s1 := { s with late := false }) _ n m rfl rfl rfl rfl (fun w' h' hr' => ?_) fun _ w' h' hr' d cv tv gv bo l hl => actChars_ok W s n m hr' hrow d cv tv gv bo l hl⟩
    have f' := rowsOk_of hr'
    obtain ⟨row', hrow', hrl'⟩ := at_rows f' hr'.y
    rw [hrow] at hrow'
    cases hrow'
    exact f'.set _ (by rw [clearR_len, hrl'])
  · have e : moveE s (charsS s n) = (Scr.none, checkS s) := by rw [moveE, if_neg h0]
    rw [e]
    exact ⟨noneS_ok, fun _ => ⟨rfl, rfl⟩, fun h => absurd h h0⟩
theorem wipeR_cok {s : Scr} (hR : s.R) (kind : Int) {L : List (List Cell)} (hc : ∀ r ∈ L, ∀ c ∈ r, c.ok) : ∀ r ∈ wipeR s kind L, ∀ c ∈ r, c.ok := by
  intro r hr
  obtain ⟨k, hk⟩ := List.getElem?_of_mem hr
  rw [wipeR, List.getElem?_mapIdx] at hk
  obtain ⟨d, hd, rfl⟩ := Option.map_eq_some_iff.1 hk
  rw [wipeP]
  split
  · intro c hcc
    rw [List.eq_of_mem_replicate hcc]
    exact blankB_ok hR.look
  · rw [List.getElem?_modify] at hd
    obtain ⟨e, he, rfl⟩ := Option.map_eq_some_iff.1 hd
    have hce := hc e (List.mem_of_getElem? he)
    split
    · exact lineR_cok hR.look kind hce
    · exact hce
theorem screenOp_ok (s : Scr) (hs : s.ok) (kind m : Int) : (moveE s (wipeScrE s kind)).1.ok ∧ ActOp W s (moveE s (wipeScrE s kind)).1 (moveE s (wipeScrE s kind)).2 [115, 99, 114, 101, 101, 110] kind m := by
  by_cases k4 : 3 < kind
  · rw [wipeScrE, if_pos k4]
    exact ⟨moveE_ok hs fun _ => hs, actOp_block W (s' := s) _ kind m rfl rfl rfl fun _ => actScreen4_ok W s kind m k4⟩
  · by_cases k3 : kind = 3
    · subst k3
      rw [wipeScrE, if_neg k4, if_pos rfl]
      exact ⟨moveE_ok hs fun _ => noGone_ok hs, actOp_gone W _ 3 m fun h0 => actScreen3_ok W s m h0⟩
    · rw [wipeScrE, if_neg k4, if_neg k3]
      by_cases h0 : checkS s = 0
      · obtain ⟨w, h, hr⟩ := right_of h0
        have f := rowsOk_of hr
        obtain ⟨row, hrow, hrl⟩ := at_rows f hr.y
        have hR := (check_iff s).1 h0
        have hc := rows_cok hs h0 hr
        rw [wipeScrS]
        refine ⟨moveE_ok hs fun _ => put_okC (late_okS hs) (wipeR_ok f s hr.fit.ew kind) (wipeR_cok hR kind hc), actOp_rows W (s1 := { s with late := false }) _ kind m rfl rfl rfl rfl (fun w' h' hr' => wipeR_ok (rowsOk_of hr') s hr'.fit.ew kind) fun _ w' h' hr' d cv tv gv bo l hl => actScreen_ok W s kind m (by omega) hr' hrow d cv tv gv bo l hl⟩
      · have e : moveE s (wipeScrS s kind) = (Scr.none, checkS s) := by rw [moveE, if_neg h0]
        rw [e]
        exact ⟨noneS_ok, fun _ => ⟨rfl, rfl⟩, fun h => absurd h h0⟩
theorem wipeLineLaw_ok (hT : Tabs W) (s : Scr) (hs : s.ok) (kind : Int) (hk : -9223372036854775808 ≤ kind ∧ kind ≤ 9223372036854775807) (n : Int) (hn : -9223372036854775808 ≤ n ∧ n ≤ 9223372036854775807) :
    Pure Tryd.prog W 11 [encScr s, .int .i64 kind, .int .i64 n] (.bool true) := by
  have h1 := one_ok W hT s hs 46 _ _ (lineOp_ok W s hs kind 0).1 [108, 105, 110, 101] kind (wipeLine_ok W hT s hs kind) (lineOp_ok W s hs kind 0).2
  have h2 := one_ok W hT s hs 47 _ _ (screenOp_ok W s hs kind 0).1 [115, 99, 114, 101, 101, 110] kind (wipeScreenE_ok W hT s hs kind) (screenOp_ok W s hs kind 0).2
  have h3 := one_ok W hT s hs 48 _ _ (charsOp_ok W s hs n 0).1 [99, 104, 97, 114, 115] n (wipeChars_ok W hT s hs n) (charsOp_ok W s hs n 0).2
  refine Pure.of (acalls_of_vc (drawOk W) Tryd.func11 rfl (by decide) (by decide) rfl ?_)
  (refine g0_ ?_; repeat ((first | refine n1_ fun b_ => ?_ | refine n2_ fun b_ => ?_ | refine n3_ fun b_ pre_ => ?_ | refine Nat1.mk fun q_ hq_ => ?_ | refine em_ fun x_ hx_ => ?_ | refine Elem1.mk fun e_ he_ => ?_); refine g0_ ?_))
  refine (h1).use ?_; (refine g0_ ?_; repeat ((first | refine n1_ fun b_ => ?_ | refine n2_ fun b_ => ?_ | refine n3_ fun b_ pre_ => ?_ | refine Nat1.mk fun q_ hq_ => ?_ | refine em_ fun x_ hx_ => ?_ | refine Elem1.mk fun e_ he_ => ?_); refine g0_ ?_))
  (refine g1_ ?_; repeat ((first | refine n1_ fun b_ => ?_ | refine n2_ fun b_ => ?_ | refine n3_ fun b_ pre_ => ?_ | refine Nat1.mk fun q_ hq_ => ?_ | refine em_ fun x_ hx_ => ?_ | refine Elem1.mk fun e_ he_ => ?_); refine g1_ ?_))
  refine (h2).use ?_; (refine g0_ ?_; repeat ((first | refine n1_ fun b_ => ?_ | refine n2_ fun b_ => ?_ | refine n3_ fun b_ pre_ => ?_ | refine Nat1.mk fun q_ hq_ => ?_ | refine em_ fun x_ hx_ => ?_ | refine Elem1.mk fun e_ he_ => ?_); refine g0_ ?_))
  (refine g1_ ?_; repeat ((first | refine n1_ fun b_ => ?_ | refine n2_ fun b_ => ?_ | refine n3_ fun b_ pre_ => ?_ | refine Nat1.mk fun q_ hq_ => ?_ | refine em_ fun x_ hx_ => ?_ | refine Elem1.mk fun e_ he_ => ?_); refine g1_ ?_))
  refine (h3).use ?_; (refine g0_ ?_; repeat ((first | refine n1_ fun b_ => ?_ | refine n2_ fun b_ => ?_ | refine n3_ fun b_ pre_ => ?_ | refine Nat1.mk fun q_ hq_ => ?_ | refine em_ fun x_ hx_ => ?_ | refine Elem1.mk fun e_ he_ => ?_); refine g0_ ?_))
  exact .refl _
end Go.Eng.YtgpkedepboenpaaDoor
end
