/- Texts put together: Dsk19. -/
import Derived.Test.YtphoefglfbifdaaDoorMK14
import Derived.Test.YtphoefglfbifdaaDoorMK12
import Derived.Test.YtphoefglfbifdaaDoorMT1
/- A desk: what is printed. -/
section
namespace Go.Eng.YtphoefglfbifdaaDoor
open Go Go.Eng Go.Proofs
variable (W : World)
set_option linter.unusedSimpArgs false
set_option maxRecDepth 100000
set_option linter.unusedVariables false
set_option maxHeartbeats 8000000
theorem wk_put {l : Fam} {y : Nat} {p : Nat × List Cell} (hp : l[y]? = some p) (b' : Nat) (nx : List Cell) (a b c : Blk) (G τ : Mem) : wkMem (a :: b :: ⟨b', .row 4 (nx.map encCell) 0⟩ :: c :: (G ++ (famM 4 encCell l ++ τ))) (a :: b :: (G ++ (famM 4 encCell (l.set y (b', nx)) ++ τ))) := by
  refine wkMem.cons (.here _ _ _) (wkMem.cons (.here _ _ _) (wkMem.swap (wkMem.skip ?_)))
  obtain ⟨q, hq⟩ := wk_famN (sz := 4) (f := encCell) hp b' nx τ
  refine ⟨q, List.perm_middle.symm.trans ?_⟩
  rw [List.append_assoc]
  exact hq.append_left G
theorem dprint_ok (d : Nat) (cv tv : PV) (p : Wk) (x : RolS) {w h : Nat} (hk : WkR p w h) (r : Int) (hr : i32ok r) (hx : DkOk x p.2.1 p.2.2) :
    ACalls Tryd.prog W 13 [.bref d 0, .int .i32 r] (rolX d cv tv x p.1)
      (Gives (fun _ : RolS => .tup []) (fun x' => rolX d cv tv x' (printW p r).1) (fun x' => DkOk x' (printW p r).2.1 (printW p r).2.2)) := by
  have hww := widthL_le r
  have hwo := widthOf_ok W r
  rw [← width_eq] at hwo
  have hw1 := hk.rows.ok.w1
  have hw2 := hk.rows.ok.w2
  have hh1 := hk.rows.ok.h1
  have hh2 := hk.rows.ok.h2
  obtain ⟨q, bo, l, g⟩ := x
  obtain ⟨s, L, G⟩ := p
  obtain ⟨hl, hgo⟩ := hx
  dsimp only at hl hgo
  subst hl
  have ew : s.g.w = w := hk.ew
  have eh : s.g.h = h := hk.eh
  have hxy : 0 ≤ s.x ∧ s.x < s.g.w ∧ 0 ≤ s.y ∧ s.y < s.g.h := hk.R.xy
  have htb : 0 ≤ s.top ∧ s.bottom < s.g.h ∧ s.top ≤ s.bottom ∧ (s.top = s.bottom → s.g.h ≤ 1) := hk.R.tb
  generalize hP : printW (s, l.map Prod.snd, G) r = P
  obtain ⟨Ps, PL, PG⟩ := P
  rw [printW] at hP
  dsimp only at hP ⊢
  by_cases h0 : widthL r = 0 ∨ s.g.w < widthL r
  · rw [if_pos h0] at hP
    cases hP
    obtain ⟨⟨gw, gh, cs⟩, X, Y, late, ⟨fo, ba, bi⟩, tp, bo_, modes, tabs, kx, ky, ⟨f2, b2, bi2⟩, km, last, title, gn⟩ := s
    dsimp only at *
    simp only [rolX, rolM, dskB_eq] at *
    refine acalls_of_vc (DM_ok (by decide)) Tryd.func13 rfl (by decide) (by decide) rfl ?_
    refine g0_ ?_
    refine (hwo).use ?_; refine g0_ ?_
    refine brec ?_; intro c_ h1; (try rw [h1]); cases c_ <;> replace h1 := nm_ h1
    · exact absurd h0 (by omega)
    · refine g0_ ?_
      exact ⟨(q, bo, l, g), ⟨rfl, hgo⟩, (by first | rfl | trivial), wkMem.rfl'⟩
  · rw [if_neg h0] at hP
    by_cases hl : leaves s (widthL r)
    · rw [beforeW] at hP
      dsimp only at hP
      rw [if_pos hl] at hP
      have hwk := feedW_right hk 0 (by omega)
      have hlt := feedW_late ({ s with x := 0 }, l.map Prod.snd, G)
      have hfeed := dfeed_ok W d cv tv ({ s with x := 0 }, l.map Prod.snd, G) (q, bo, l, g) ew eh hk.rows.ok (by show 0 ≤ s.y ∧ s.y < h; omega) (by show 0 ≤ s.top ∧ s.top ≤ s.bottom ∧ s.bottom < h; omega) hk.gone.len ⟨rfl, hgo⟩
      have feedX := feedW_x ({ s with x := 0 }, l.map Prod.snd, G)
      have hmo := feedW_modes ({ s with x := 0 }, l.map Prod.snd, G)
      generalize feedW ({ s with x := 0 }, l.map Prod.snd, G) = F at *
      obtain ⟨t, M, G'⟩ := F
      have ewt : t.g.w = w := hwk.ew
      have eht : t.g.h = h := hwk.eh
      have hxt : 0 ≤ t.x ∧ t.x < t.g.w ∧ 0 ≤ t.y ∧ t.y < t.g.h := hwk.R.xy
      have hrows := hwk.rows.ok
      replace hlt : t.late = false := hlt
      replace hmo : t.modes = s.modes := hmo
      have hx0 : t.x = 0 := feedX
      rw [afterW] at hP
      dsimp only at hP
      obtain ⟨⟨gw, gh, cs⟩, X, Y, lt, ⟨fo, ba, bi⟩, tp, bo_, modes, tabs, kx, ky, ⟨f2, b2, bi2⟩, km, last, title, gn⟩ := t
      obtain ⟨⟨gw', gh', cs'⟩, X', Y', lt', ⟨fo', ba', bi'⟩, tp', bo', modes', tabs', kx', ky', ⟨f2', b2', bi2'⟩, km', last', title', gone'⟩ := s
      dsimp only at *
      subst hlt hmo
      subst ew ewt
      rw [if_neg (show ¬ (w : Int) < X + widthL r by omega)] at hP
      unfold leaves at hl
      dsimp only [wrapB] at hl
      clear hk
      simp only [rolX, rolM, dskB_eq] at *
      by_cases hA : lt' = true
      · subst hA
        clear hl
        refine acalls_of_vc (DM_ok (by decide)) Tryd.func13 rfl (by decide) (by decide) rfl ?_
        refine g0_ ?_
        refine (hwo).use ?_; refine g0_ ?_
        refine g1_ ?_
        refine headT_ (head_ ?_); refine g0_ ?_
        refine g1_ ?_
        refine ACalls.lendW hfeed (ρ := []) (List.Perm.of_eq (List.append_nil _).symm) ?_
        rintro v σ1 ⟨⟨q, bo, l, g⟩, ⟨hl, hgo⟩, rfl, hm⟩
        refine ⟨_, (List.append_nil σ1).symm ▸ hm, ?_⟩
        dsimp only at hl hgo ⊢
        subst hl
        have hll : l.length = h := by have := hwk.rows.ok.len; rwa [List.length_map] at this
        obtain ⟨x, rfl⟩ := Int.eq_ofNat_of_zero_le hxt.1
        obtain ⟨y, rfl⟩ := Int.eq_ofNat_of_zero_le hxt.2.2.1
        obtain ⟨p, hp⟩ : ∃ p, l[y]? = some p := ⟨_, List.getElem?_eq_getElem (by omega)⟩
        have hpl : p.2.length = w := hwk.rows.ok.row _ (List.mem_map.2 ⟨p, List.mem_of_getElem? hp, rfl⟩)
        have hp0 : l[0 + y]? = some p := by rwa [Nat.zero_add]
        have hyl := lt_of_at hp
        have hgd : (l.map Prod.snd).getD y [] = p.2 := by rw [List.getD_eq_getElem?_getD, List.getElem?_map, hp]; rfl
        rw [Int.toNat_natCast, Int.toNat_natCast, hgd] at hP
        refine g0_ ?_
        refine headT_ (head_ ?_); refine g0_ ?_
        refine headT_ (head_ ?_); refine g0_ ?_
        by_cases hi : bitop .and .i64 modes 1 = 0
        · refine g1_ ?_
          refine Draws11.tree ⟨17, [.new, .new, .new, .new, .new, .new, .new, .new, .new, .new, .turn, .new, .new, .new, .new, .new, .new], (.one 10 [.keep, .keep, .keep, .keep, .keep, .keep, .keep, .keep, .keep, .keep, .keep, .again, .again, .again, .again, .again, .again] .fin), by decide +kernel, ?_⟩; refine g0_ ?_
          have hrl : (runeC ⟨fo, ba, bi⟩ r).length = widthL r := runeC_len _ r
          have hfl : [p.2.take x, runeC ⟨fo, ba, bi⟩ r, p.2.drop (x + widthL r)].flatten = p.2.take x ++ runeC ⟨fo, ba, bi⟩ r ++ p.2.drop (x + widthL r) := by simp
          have hfn : w ≤ [p.2.take x, runeC ⟨fo, ba, bi⟩ r, p.2.drop (x + widthL r)].flatten.length ∧ [p.2.take x, runeC ⟨fo, ba, bi⟩ r, p.2.drop (x + widthL r)].flatten.length ≤ 2 * w := by rw [hfl, List.length_append, List.length_append, hrl, List.length_take, List.length_drop]; omega
          have hlk := Look.app (Look.fam (sz := 4) (f := encCell) hp (famM 4 encCell g ++ [])) (⟨d, .row 23 [.agg [.int .i64 w, .int .i64 gh, cv, .int .i64 x, .int .i64 y, .bool false, .int .i64 fo, .int .i64 ba, .int .i64 bi, .int .i64 tp, .int .i64 bo_, .int .i64 modes, tv, .int .i64 kx, .int .i64 ky, .int .i64 f2, .int .i64 b2, .int .i64 bi2, .int .i64 km, .int .i32 last, .str title, gonV q, .rsl bo 1 0 l.length]] 0⟩ :: ⟨bo, .row 1 (l.map (rowP 4)) 0⟩ :: gonM q)
          refine ACalls.borrowS (concat_ok W [p.2.take x, runeC ⟨fo, ba, bi⟩ r, p.2.drop (x + widthL r)] (by simp) (by omega) (by omega)) (fun b _ => ⟨.rsl _ _ _ _, freeM1 _ _⟩) (sem_three rfl rfl rfl (r1 := p.2.take x) (r2 := runeC ⟨fo, ba, bi⟩ r) (r3 := p.2.drop (x + widthL r)) ?_ ?_ ?_) ?_
          · exact frz_seg hlk 0 x (by omega)
          · rw [show encRow (runeC ⟨fo, ba, bi⟩ r) = PV.sl 4 (List.take (widthL r) ([⟨r, ⟨fo, ba, bi⟩⟩, ⟨0, ⟨fo, ba, bi⟩⟩].map encCell)) by rw [encRow, runeC, List.map_take]]
            exact .refl _
          · have := frz_seg hlk (x + widthL r) (p.2.length - (x + widthL r)) (by omega)
            rw [List.take_of_length_le (by simp)] at this
            rw [Nat.zero_add]
            exact this
          rintro bC -
          refine g0_ ?_
          have hin : nextR false ⟨fo, ba, bi⟩ r x p.2 = (([p.2.take x, runeC ⟨fo, ba, bi⟩ r, p.2.drop (x + widthL r)].flatten).drop 0).take w := by rw [hfl, nextR, hpl]; rfl
          have hil : (nextR false ⟨fo, ba, bi⟩ r x p.2).length = w := by rw [nextR_len (by omega), hpl]
          refine Draws11.tree ⟨13, [.new, .new, .new, .new, .new, .new, .new, .new, .new, .new, .turn, .skip, .skip], (.one 10 [.again, .again, .again, .again, .again, .again, .again, .again, .again, .keep, .keep, .new, .turn] (.one 12 [.keep, .keep, .keep, .keep, .keep, .keep, .keep, .keep, .keep, .keep, .keep, .keep, .keep] .fin)), by decide +kernel, ?_⟩; refine g0_ ?_
          refine ACalls.borrow1 (mendR_ok W (nextR false ⟨fo, ba, bi⟩ r x p.2) (by intro h0; rw [h0] at hil; simp at hil; omega) (by omega)) (fun b _ => ⟨.rsl _ _ _ _, freeM1 _ _⟩) ?_ ?_
          · rw [hin]
            exact frz_seg (.here _ _ _) 0 w (by omega)
          rintro b' -
          rw [List.length_map, mendL_len, hil]
          refine g0_ ?_
          have hnx : mendL (nextR false ⟨fo, ba, bi⟩ r x p.2) = putI false ⟨fo, ba, bi⟩ r x p.2 := next_put (by omega) (by omega)
          have hpl2 : (putI false ⟨fo, ba, bi⟩ r x p.2).length = w := by rw [← hnx, mendL_len, hil]
          rw [hnx, show (l.map (rowP 4)).set (0 + y) (.rsl b' 4 0 w) = (l.set y (b', putI false ⟨fo, ba, bi⟩ r x p.2)).map (rowP 4) by rw [Nat.zero_add, List.map_set, rowP, hpl2]]
          rw [show insB ⟨⟨w, gh, cs⟩, x, y, false, ⟨fo, ba, bi⟩, tp, bo_, modes, tabs, kx, ky, ⟨f2, b2, bi2⟩, km, last, title, gn⟩ = false by simp [insB, hi]] at hP
          have hfm : (l.set y (b', putI false ⟨fo, ba, bi⟩ r x p.2)).map Prod.snd = (l.map Prod.snd).set y (putI false ⟨fo, ba, bi⟩ r x p.2) := by rw [List.map_set]
          rw [← hfm] at hP
          rw [behind] at hP
          dsimp only at hP
          generalize putI false ⟨fo, ba, bi⟩ r x p.2 = nx at *
          by_cases hE : (x : Int) + widthL r < w
          · rw [if_pos hE] at hP
            cases hP
            refine headT_ (head_ ?_); refine g0_ ?_
            refine g1_ ?_
            exact ⟨(q, bo, l.set y (b', nx), g), ⟨rfl, hgo⟩, (by first | rfl | trivial), by (show wkMem _ (_ :: _ :: (gonM q ++ (famM 4 encCell (l.set y (b', nx)) ++ (famM 4 encCell g ++ [])))); rw [List.length_set]; exact wk_put hp b' nx _ _ _ _ _)⟩
          · rw [if_neg hE] at hP
            cases hP
            refine headT_ (head_ ?_); refine g0_ ?_
            refine g1_ ?_
            rw [show (x : Int) + widthL r - 1 = (w : Int) - 1 by omega]
            exact ⟨(q, bo, l.set y (b', nx), g), ⟨rfl, hgo⟩, (by first | rfl | trivial), by (show wkMem _ (_ :: _ :: (gonM q ++ (famM 4 encCell (l.set y (b', nx)) ++ (famM 4 encCell g ++ [])))); rw [List.length_set]; exact wk_put hp b' nx _ _ _ _ _)⟩
        · refine g1_ ?_
          refine Draws11.tree ⟨17, [.new, .new, .new, .new, .new, .new, .new, .new, .new, .new, .turn, .new, .new, .new, .new, .new, .new], (.one 10 [.keep, .keep, .keep, .keep, .keep, .keep, .keep, .keep, .keep, .keep, .keep, .again, .again, .again, .again, .again, .again] .fin), by decide +kernel, ?_⟩; refine g0_ ?_
          have hrl : (runeC ⟨fo, ba, bi⟩ r).length = widthL r := runeC_len _ r
          have hfl : [p.2.take x, runeC ⟨fo, ba, bi⟩ r, p.2.drop x].flatten = p.2.take x ++ runeC ⟨fo, ba, bi⟩ r ++ p.2.drop x := by simp
          have hfn : w ≤ [p.2.take x, runeC ⟨fo, ba, bi⟩ r, p.2.drop x].flatten.length ∧ [p.2.take x, runeC ⟨fo, ba, bi⟩ r, p.2.drop x].flatten.length ≤ 2 * w := by rw [hfl, List.length_append, List.length_append, hrl, List.length_take, List.length_drop]; omega
          have hlk := Look.app (Look.fam (sz := 4) (f := encCell) hp (famM 4 encCell g ++ [])) (⟨d, .row 23 [.agg [.int .i64 w, .int .i64 gh, cv, .int .i64 x, .int .i64 y, .bool false, .int .i64 fo, .int .i64 ba, .int .i64 bi, .int .i64 tp, .int .i64 bo_, .int .i64 modes, tv, .int .i64 kx, .int .i64 ky, .int .i64 f2, .int .i64 b2, .int .i64 bi2, .int .i64 km, .int .i32 last, .str title, gonV q, .rsl bo 1 0 l.length]] 0⟩ :: ⟨bo, .row 1 (l.map (rowP 4)) 0⟩ :: gonM q)
          refine ACalls.borrowS (concat_ok W [p.2.take x, runeC ⟨fo, ba, bi⟩ r, p.2.drop x] (by simp) (by omega) (by omega)) (fun b _ => ⟨.rsl _ _ _ _, freeM1 _ _⟩) (sem_three rfl rfl rfl (r1 := p.2.take x) (r2 := runeC ⟨fo, ba, bi⟩ r) (r3 := p.2.drop x) ?_ ?_ ?_) ?_
          · exact frz_seg hlk 0 x (by omega)
          · rw [show encRow (runeC ⟨fo, ba, bi⟩ r) = PV.sl 4 (List.take (widthL r) ([⟨r, ⟨fo, ba, bi⟩⟩, ⟨0, ⟨fo, ba, bi⟩⟩].map encCell)) by rw [encRow, runeC, List.map_take]]
            exact .refl _
          · have := frz_seg hlk x (p.2.length - x) (by omega)
            rw [List.take_of_length_le (by simp)] at this
            rw [Nat.zero_add]
            exact this
          rintro bC -
          refine g0_ ?_
          have hin : nextR true ⟨fo, ba, bi⟩ r x p.2 = (([p.2.take x, runeC ⟨fo, ba, bi⟩ r, p.2.drop x].flatten).drop 0).take w := by rw [hfl, nextR, hpl]; rfl
          have hil : (nextR true ⟨fo, ba, bi⟩ r x p.2).length = w := by rw [nextR_len (by omega), hpl]
          refine Draws11.tree ⟨13, [.new, .new, .new, .new, .new, .new, .new, .new, .new, .new, .turn, .skip, .skip], (.one 10 [.again, .again, .again, .again, .again, .again, .again, .again, .again, .keep, .keep, .new, .turn] (.one 12 [.keep, .keep, .keep, .keep, .keep, .keep, .keep, .keep, .keep, .keep, .keep, .keep, .keep] .fin)), by decide +kernel, ?_⟩; refine g0_ ?_
          refine ACalls.borrow1 (mendR_ok W (nextR true ⟨fo, ba, bi⟩ r x p.2) (by intro h0; rw [h0] at hil; simp at hil; omega) (by omega)) (fun b _ => ⟨.rsl _ _ _ _, freeM1 _ _⟩) ?_ ?_
          · rw [hin]
            exact frz_seg (.here _ _ _) 0 w (by omega)
          rintro b' -
          rw [List.length_map, mendL_len, hil]
          refine g0_ ?_
          have hnx : mendL (nextR true ⟨fo, ba, bi⟩ r x p.2) = putI true ⟨fo, ba, bi⟩ r x p.2 := next_put (by omega) (by omega)
          have hpl2 : (putI true ⟨fo, ba, bi⟩ r x p.2).length = w := by rw [← hnx, mendL_len, hil]
          rw [hnx, show (l.map (rowP 4)).set (0 + y) (.rsl b' 4 0 w) = (l.set y (b', putI true ⟨fo, ba, bi⟩ r x p.2)).map (rowP 4) by rw [Nat.zero_add, List.map_set, rowP, hpl2]]
          rw [show insB ⟨⟨w, gh, cs⟩, x, y, false, ⟨fo, ba, bi⟩, tp, bo_, modes, tabs, kx, ky, ⟨f2, b2, bi2⟩, km, last, title, gn⟩ = true by simp [insB, hi]] at hP
          have hfm : (l.set y (b', putI true ⟨fo, ba, bi⟩ r x p.2)).map Prod.snd = (l.map Prod.snd).set y (putI true ⟨fo, ba, bi⟩ r x p.2) := by rw [List.map_set]
          rw [← hfm] at hP
          rw [behind] at hP
          dsimp only at hP
          generalize putI true ⟨fo, ba, bi⟩ r x p.2 = nx at *
          by_cases hE : (x : Int) + widthL r < w
          · rw [if_pos hE] at hP
            cases hP
            refine headT_ (head_ ?_); refine g0_ ?_
            refine g1_ ?_
            exact ⟨(q, bo, l.set y (b', nx), g), ⟨rfl, hgo⟩, (by first | rfl | trivial), by (show wkMem _ (_ :: _ :: (gonM q ++ (famM 4 encCell (l.set y (b', nx)) ++ (famM 4 encCell g ++ [])))); rw [List.length_set]; exact wk_put hp b' nx _ _ _ _ _)⟩
          · rw [if_neg hE] at hP
            cases hP
            refine headT_ (head_ ?_); refine g0_ ?_
            refine g1_ ?_
            rw [show (x : Int) + widthL r - 1 = (w : Int) - 1 by omega]
            exact ⟨(q, bo, l.set y (b', nx), g), ⟨rfl, hgo⟩, (by first | rfl | trivial), by (show wkMem _ (_ :: _ :: (gonM q ++ (famM 4 encCell (l.set y (b', nx)) ++ (famM 4 encCell g ++ [])))); rw [List.length_set]; exact wk_put hp b' nx _ _ _ _ _)⟩
      · have hl2 := hl.resolve_left hA
        have hA' : lt' = false := by simpa using hA
        have hC : ¬ bitop .and .i64 modes 4 = 0 := by simpa using hl2.2
        have hB2 := hl2.1
        subst hA'
        clear hl hl2
        refine acalls_of_vc (DM_ok (by decide)) Tryd.func13 rfl (by decide) (by decide) rfl ?_
        refine g0_ ?_
        refine (hwo).use ?_; refine g0_ ?_
        refine g1_ ?_
        refine headT_ (head_ ?_); refine g0_ ?_
        refine g1_ ?_
        refine ACalls.lendW hfeed (ρ := []) (List.Perm.of_eq (List.append_nil _).symm) ?_
        rintro v σ1 ⟨⟨q, bo, l, g⟩, ⟨hl, hgo⟩, rfl, hm⟩
        refine ⟨_, (List.append_nil σ1).symm ▸ hm, ?_⟩
        dsimp only at hl hgo ⊢
        subst hl
        have hll : l.length = h := by have := hwk.rows.ok.len; rwa [List.length_map] at this
        obtain ⟨x, rfl⟩ := Int.eq_ofNat_of_zero_le hxt.1
        obtain ⟨y, rfl⟩ := Int.eq_ofNat_of_zero_le hxt.2.2.1
        obtain ⟨p, hp⟩ : ∃ p, l[y]? = some p := ⟨_, List.getElem?_eq_getElem (by omega)⟩
        have hpl : p.2.length = w := hwk.rows.ok.row _ (List.mem_map.2 ⟨p, List.mem_of_getElem? hp, rfl⟩)
        have hp0 : l[0 + y]? = some p := by rwa [Nat.zero_add]
        have hyl := lt_of_at hp
        have hgd : (l.map Prod.snd).getD y [] = p.2 := by rw [List.getD_eq_getElem?_getD, List.getElem?_map, hp]; rfl
        rw [Int.toNat_natCast, Int.toNat_natCast, hgd] at hP
        refine g0_ ?_
        refine headT_ (head_ ?_); refine g0_ ?_
        refine headT_ (head_ ?_); refine g0_ ?_
        by_cases hi : bitop .and .i64 modes 1 = 0
        · refine g1_ ?_
          refine Draws11.tree ⟨17, [.new, .new, .new, .new, .new, .new, .new, .new, .new, .new, .turn, .new, .new, .new, .new, .new, .new], (.one 10 [.keep, .keep, .keep, .keep, .keep, .keep, .keep, .keep, .keep, .keep, .keep, .again, .again, .again, .again, .again, .again] .fin), by decide +kernel, ?_⟩; refine g0_ ?_
          have hrl : (runeC ⟨fo, ba, bi⟩ r).length = widthL r := runeC_len _ r
          have hfl : [p.2.take x, runeC ⟨fo, ba, bi⟩ r, p.2.drop (x + widthL r)].flatten = p.2.take x ++ runeC ⟨fo, ba, bi⟩ r ++ p.2.drop (x + widthL r) := by simp
          have hfn : w ≤ [p.2.take x, runeC ⟨fo, ba, bi⟩ r, p.2.drop (x + widthL r)].flatten.length ∧ [p.2.take x, runeC ⟨fo, ba, bi⟩ r, p.2.drop (x + widthL r)].flatten.length ≤ 2 * w := by rw [hfl, List.length_append, List.length_append, hrl, List.length_take, List.length_drop]; omega
          have hlk := Look.app (Look.fam (sz := 4) (f := encCell) hp (famM 4 encCell g ++ [])) (⟨d, .row 23 [.agg [.int .i64 w, .int .i64 gh, cv, .int .i64 x, .int .i64 y, .bool false, .int .i64 fo, .int .i64 ba, .int .i64 bi, .int .i64 tp, .int .i64 bo_, .int .i64 modes, tv, .int .i64 kx, .int .i64 ky, .int .i64 f2, .int .i64 b2, .int .i64 bi2, .int .i64 km, .int .i32 last, .str title, gonV q, .rsl bo 1 0 l.length]] 0⟩ :: ⟨bo, .row 1 (l.map (rowP 4)) 0⟩ :: gonM q)
          refine ACalls.borrowS (concat_ok W [p.2.take x, runeC ⟨fo, ba, bi⟩ r, p.2.drop (x + widthL r)] (by simp) (by omega) (by omega)) (fun b _ => ⟨.rsl _ _ _ _, freeM1 _ _⟩) (sem_three rfl rfl rfl (r1 := p.2.take x) (r2 := runeC ⟨fo, ba, bi⟩ r) (r3 := p.2.drop (x + widthL r)) ?_ ?_ ?_) ?_
          · exact frz_seg hlk 0 x (by omega)
          · rw [show encRow (runeC ⟨fo, ba, bi⟩ r) = PV.sl 4 (List.take (widthL r) ([⟨r, ⟨fo, ba, bi⟩⟩, ⟨0, ⟨fo, ba, bi⟩⟩].map encCell)) by rw [encRow, runeC, List.map_take]]
            exact .refl _
          · have := frz_seg hlk (x + widthL r) (p.2.length - (x + widthL r)) (by omega)
            rw [List.take_of_length_le (by simp)] at this
            rw [Nat.zero_add]
            exact this
          rintro bC -
          refine g0_ ?_
          have hin : nextR false ⟨fo, ba, bi⟩ r x p.2 = (([p.2.take x, runeC ⟨fo, ba, bi⟩ r, p.2.drop (x + widthL r)].flatten).drop 0).take w := by rw [hfl, nextR, hpl]; rfl
          have hil : (nextR false ⟨fo, ba, bi⟩ r x p.2).length = w := by rw [nextR_len (by omega), hpl]
          refine Draws11.tree ⟨13, [.new, .new, .new, .new, .new, .new, .new, .new, .new, .new, .turn, .skip, .skip], (.one 10 [.again, .again, .again, .again, .again, .again, .again, .again, .again, .keep, .keep, .new, .turn] (.one 12 [.keep, .keep, .keep, .keep, .keep, .keep, .keep, .keep, .keep, .keep, .keep, .keep, .keep] .fin)), by decide +kernel, ?_⟩; refine g0_ ?_
          refine ACalls.borrow1 (mendR_ok W (nextR false ⟨fo, ba, bi⟩ r x p.2) (by intro h0; rw [h0] at hil; simp at hil; omega) (by omega)) (fun b _ => ⟨.rsl _ _ _ _, freeM1 _ _⟩) ?_ ?_
          · rw [hin]
            exact frz_seg (.here _ _ _) 0 w (by omega)
          rintro b' -
          rw [List.length_map, mendL_len, hil]
          refine g0_ ?_
          have hnx : mendL (nextR false ⟨fo, ba, bi⟩ r x p.2) = putI false ⟨fo, ba, bi⟩ r x p.2 := next_put (by omega) (by omega)
          have hpl2 : (putI false ⟨fo, ba, bi⟩ r x p.2).length = w := by rw [← hnx, mendL_len, hil]
          rw [hnx, show (l.map (rowP 4)).set (0 + y) (.rsl b' 4 0 w) = (l.set y (b', putI false ⟨fo, ba, bi⟩ r x p.2)).map (rowP 4) by rw [Nat.zero_add, List.map_set, rowP, hpl2]]
          rw [show insB ⟨⟨w, gh, cs⟩, x, y, false, ⟨fo, ba, bi⟩, tp, bo_, modes, tabs, kx, ky, ⟨f2, b2, bi2⟩, km, last, title, gn⟩ = false by simp [insB, hi]] at hP
          have hfm : (l.set y (b', putI false ⟨fo, ba, bi⟩ r x p.2)).map Prod.snd = (l.map Prod.snd).set y (putI false ⟨fo, ba, bi⟩ r x p.2) := by rw [List.map_set]
          rw [← hfm] at hP
          rw [behind] at hP
          dsimp only at hP
          generalize putI false ⟨fo, ba, bi⟩ r x p.2 = nx at *
          by_cases hE : (x : Int) + widthL r < w
          · rw [if_pos hE] at hP
            cases hP
            refine headT_ (head_ ?_); refine g0_ ?_
            refine g1_ ?_
            exact ⟨(q, bo, l.set y (b', nx), g), ⟨rfl, hgo⟩, (by first | rfl | trivial), by (show wkMem _ (_ :: _ :: (gonM q ++ (famM 4 encCell (l.set y (b', nx)) ++ (famM 4 encCell g ++ [])))); rw [List.length_set]; exact wk_put hp b' nx _ _ _ _ _)⟩
          · rw [if_neg hE] at hP
            cases hP
            refine headT_ (head_ ?_); refine g0_ ?_
            refine g1_ ?_
            rw [show (x : Int) + widthL r - 1 = (w : Int) - 1 by omega]
            exact ⟨(q, bo, l.set y (b', nx), g), ⟨rfl, hgo⟩, (by first | rfl | trivial), by (show wkMem _ (_ :: _ :: (gonM q ++ (famM 4 encCell (l.set y (b', nx)) ++ (famM 4 encCell g ++ [])))); rw [List.length_set]; exact wk_put hp b' nx _ _ _ _ _)⟩
        · refine g1_ ?_
          refine Draws11.tree ⟨17, [.new, .new, .new, .new, .new, .new, .new, .new, .new, .new, .turn, .new, .new, .new, .new, .new, .new], (.one 10 [.keep, .keep, .keep, .keep, .keep, .keep, .keep, .keep, .keep, .keep, .keep, .again, .again, .again, .again, .again, .again] .fin), by decide +kernel, ?_⟩; refine g0_ ?_
          have hrl : (runeC ⟨fo, ba, bi⟩ r).length = widthL r := runeC_len _ r
          have hfl : [p.2.take x, runeC ⟨fo, ba, bi⟩ r, p.2.drop x].flatten = p.2.take x ++ runeC ⟨fo, ba, bi⟩ r ++ p.2.drop x := by simp
          have hfn : w ≤ [p.2.take x, runeC ⟨fo, ba, bi⟩ r, p.2.drop x].flatten.length ∧ [p.2.take x, runeC ⟨fo, ba, bi⟩ r, p.2.drop x].flatten.length ≤ 2 * w := by rw [hfl, List.length_append, List.length_append, hrl, List.length_take, List.length_drop]; omega
          have hlk := Look.app (Look.fam (sz := 4) (f := encCell) hp (famM 4 encCell g ++ [])) (⟨d, .row 23 [.agg [.int .i64 w, .int .i64 gh, cv, .int .i64 x, .int .i64 y, .bool false, .int .i64 fo, .int .i64 ba, .int .i64 bi, .int .i64 tp, .int .i64 bo_, .int .i64 modes, tv, .int .i64 kx, .int .i64 ky, .int .i64 f2, .int .i64 b2, .int .i64 bi2, .int .i64 km, .int .i32 last, .str title, gonV q, .rsl bo 1 0 l.length]] 0⟩ :: ⟨bo, .row 1 (l.map (rowP 4)) 0⟩ :: gonM q)
          refine ACalls.borrowS (concat_ok W [p.2.take x, runeC ⟨fo, ba, bi⟩ r, p.2.drop x] (by simp) (by omega) (by omega)) (fun b _ => ⟨.rsl _ _ _ _, freeM1 _ _⟩) (sem_three rfl rfl rfl (r1 := p.2.take x) (r2 := runeC ⟨fo, ba, bi⟩ r) (r3 := p.2.drop x) ?_ ?_ ?_) ?_
          · exact frz_seg hlk 0 x (by omega)
          · rw [show encRow (runeC ⟨fo, ba, bi⟩ r) = PV.sl 4 (List.take (widthL r) ([⟨r, ⟨fo, ba, bi⟩⟩, ⟨0, ⟨fo, ba, bi⟩⟩].map encCell)) by rw [encRow, runeC, List.map_take]]
            exact .refl _
          · have := frz_seg hlk x (p.2.length - x) (by omega)
            rw [List.take_of_length_le (by simp)] at this
            rw [Nat.zero_add]
            exact this
          rintro bC -
          refine g0_ ?_
          have hin : nextR true ⟨fo, ba, bi⟩ r x p.2 = (([p.2.take x, runeC ⟨fo, ba, bi⟩ r, p.2.drop x].flatten).drop 0).take w := by rw [hfl, nextR, hpl]; rfl
          have hil : (nextR true ⟨fo, ba, bi⟩ r x p.2).length = w := by rw [nextR_len (by omega), hpl]
          refine Draws11.tree ⟨13, [.new, .new, .new, .new, .new, .new, .new, .new, .new, .new, .turn, .skip, .skip], (.one 10 [.again, .again, .again, .again, .again, .again, .again, .again, .again, .keep, .keep, .new, .turn] (.one 12 [.keep, .keep, .keep, .keep, .keep, .keep, .keep, .keep, .keep, .keep, .keep, .keep, .keep] .fin)), by decide +kernel, ?_⟩; refine g0_ ?_
          refine ACalls.borrow1 (mendR_ok W (nextR true ⟨fo, ba, bi⟩ r x p.2) (by intro h0; rw [h0] at hil; simp at hil; omega) (by omega)) (fun b _ => ⟨.rsl _ _ _ _, freeM1 _ _⟩) ?_ ?_
          · rw [hin]
            exact frz_seg (.here _ _ _) 0 w (by omega)
          rintro b' -
          rw [List.length_map, mendL_len, hil]
          refine g0_ ?_
          have hnx : mendL (nextR true ⟨fo, ba, bi⟩ r x p.2) = putI true ⟨fo, ba, bi⟩ r x p.2 := next_put (by omega) (by omega)
          have hpl2 : (putI true ⟨fo, ba, bi⟩ r x p.2).length = w := by rw [← hnx, mendL_len, hil]
          rw [hnx, show (l.map (rowP 4)).set (0 + y) (.rsl b' 4 0 w) = (l.set y (b', putI true ⟨fo, ba, bi⟩ r x p.2)).map (rowP 4) by rw [Nat.zero_add, List.map_set, rowP, hpl2]]
          rw [show insB ⟨⟨w, gh, cs⟩, x, y, false, ⟨fo, ba, bi⟩, tp, bo_, modes, tabs, kx, ky, ⟨f2, b2, bi2⟩, km, last, title, gn⟩ = true by simp [insB, hi]] at hP
          have hfm : (l.set y (b', putI true ⟨fo, ba, bi⟩ r x p.2)).map Prod.snd = (l.map Prod.snd).set y (putI true ⟨fo, ba, bi⟩ r x p.2) := by rw [List.map_set]
          rw [← hfm] at hP
          rw [behind] at hP
          dsimp only at hP
          generalize putI true ⟨fo, ba, bi⟩ r x p.2 = nx at *
          by_cases hE : (x : Int) + widthL r < w
          · rw [if_pos hE] at hP
            cases hP
            refine headT_ (head_ ?_); refine g0_ ?_
            refine g1_ ?_
            exact ⟨(q, bo, l.set y (b', nx), g), ⟨rfl, hgo⟩, (by first | rfl | trivial), by (show wkMem _ (_ :: _ :: (gonM q ++ (famM 4 encCell (l.set y (b', nx)) ++ (famM 4 encCell g ++ [])))); rw [List.length_set]; exact wk_put hp b' nx _ _ _ _ _)⟩
          · rw [if_neg hE] at hP
            cases hP
            refine headT_ (head_ ?_); refine g0_ ?_
            refine g1_ ?_
            rw [show (x : Int) + widthL r - 1 = (w : Int) - 1 by omega]
            exact ⟨(q, bo, l.set y (b', nx), g), ⟨rfl, hgo⟩, (by first | rfl | trivial), by (show wkMem _ (_ :: _ :: (gonM q ++ (famM 4 encCell (l.set y (b', nx)) ++ (famM 4 encCell g ++ [])))); rw [List.length_set]; exact wk_put hp b' nx _ _ _ _ _)⟩
    · rw [beforeW] at hP
      dsimp only at hP
      rw [if_neg hl] at hP
      have hlt : s.late = false := by
        cases hq : s.late with
        | false => rfl
        | true => exact absurd (Or.inl hq) hl
      have hnw : ¬(s.g.w < s.x + widthL r ∧ ¬bitop .and .i64 s.modes 4 = 0) := fun hq => hl (.inr ⟨hq.1, by simpa [wrapB] using hq.2⟩)
      rw [afterW] at hP
      dsimp only at hP
      clear hl
      by_cases hB : s.g.w < s.x + widthL r
      · rw [if_pos hB] at hP
        cases hP
        obtain ⟨⟨gw, gh, cs⟩, X, Y, late, ⟨fo, ba, bi⟩, tp, bo_, modes, tabs, kx, ky, ⟨f2, b2, bi2⟩, km, last, title, gn⟩ := s
        dsimp only at *
        subst hlt ew
        have hC : bitop .and .i64 modes 4 = 0 := Decidable.not_not.1 fun hq => hnw ⟨hB, hq⟩
        simp only [rolX, rolM, dskB_eq] at *
        refine acalls_of_vc (DM_ok (by decide)) Tryd.func13 rfl (by decide) (by decide) rfl ?_
        refine g0_ ?_
        refine (hwo).use ?_; refine g0_ ?_
        refine g1_ ?_
        refine headT_ (head_ ?_); refine g0_ ?_
        refine g1_ ?_
        exact ⟨(q, bo, l, g), ⟨rfl, hgo⟩, (by first | rfl | trivial), wkMem.rfl'⟩
      · rw [if_neg hB] at hP
        obtain ⟨⟨gw, gh, cs⟩, X, Y, late, ⟨fo, ba, bi⟩, tp, bo_, modes, tabs, kx, ky, ⟨f2, b2, bi2⟩, km, last, title, gn⟩ := s
        dsimp only at *
        subst hlt ew
        have hll : l.length = h := by have := hk.rows.ok.len; rwa [List.length_map] at this
        obtain ⟨x, rfl⟩ := Int.eq_ofNat_of_zero_le hxy.1
        obtain ⟨y, rfl⟩ := Int.eq_ofNat_of_zero_le hxy.2.2.1
        obtain ⟨p, hp⟩ : ∃ p, l[y]? = some p := ⟨_, List.getElem?_eq_getElem (by omega)⟩
        have hpl : p.2.length = w := hk.rows.ok.row _ (List.mem_map.2 ⟨p, List.mem_of_getElem? hp, rfl⟩)
        have hp0 : l[0 + y]? = some p := by rwa [Nat.zero_add]
        have hyl := lt_of_at hp
        have hgd : (l.map Prod.snd).getD y [] = p.2 := by rw [List.getD_eq_getElem?_getD, List.getElem?_map, hp]; rfl
        rw [Int.toNat_natCast, Int.toNat_natCast, hgd] at hP
        simp only [rolX, rolM, dskB_eq] at *
        refine acalls_of_vc (DM_ok (by decide)) Tryd.func13 rfl (by decide) (by decide) rfl ?_
        refine g0_ ?_
        refine (hwo).use ?_; refine g0_ ?_
        refine g1_ ?_
        refine headT_ (head_ ?_); refine g0_ ?_
        refine g1_ ?_
        refine headT_ (head_ ?_); refine g0_ ?_
        refine headT_ (head_ ?_); refine g0_ ?_
        by_cases hi : bitop .and .i64 modes 1 = 0
        · refine g1_ ?_
          refine Draws11.tree ⟨17, [.new, .new, .new, .new, .new, .new, .new, .new, .new, .new, .turn, .new, .new, .new, .new, .new, .new], (.one 10 [.keep, .keep, .keep, .keep, .keep, .keep, .keep, .keep, .keep, .keep, .keep, .again, .again, .again, .again, .again, .again] .fin), by decide +kernel, ?_⟩; refine g0_ ?_
          have hrl : (runeC ⟨fo, ba, bi⟩ r).length = widthL r := runeC_len _ r
          have hfl : [p.2.take x, runeC ⟨fo, ba, bi⟩ r, p.2.drop (x + widthL r)].flatten = p.2.take x ++ runeC ⟨fo, ba, bi⟩ r ++ p.2.drop (x + widthL r) := by simp
          have hfn : w ≤ [p.2.take x, runeC ⟨fo, ba, bi⟩ r, p.2.drop (x + widthL r)].flatten.length ∧ [p.2.take x, runeC ⟨fo, ba, bi⟩ r, p.2.drop (x + widthL r)].flatten.length ≤ 2 * w := by rw [hfl, List.length_append, List.length_append, hrl, List.length_take, List.length_drop]; omega
          have hlk := Look.app (Look.fam (sz := 4) (f := encCell) hp (famM 4 encCell g ++ [])) (⟨d, .row 23 [.agg [.int .i64 w, .int .i64 gh, cv, .int .i64 x, .int .i64 y, .bool false, .int .i64 fo, .int .i64 ba, .int .i64 bi, .int .i64 tp, .int .i64 bo_, .int .i64 modes, tv, .int .i64 kx, .int .i64 ky, .int .i64 f2, .int .i64 b2, .int .i64 bi2, .int .i64 km, .int .i32 last, .str title, gonV q, .rsl bo 1 0 l.length]] 0⟩ :: ⟨bo, .row 1 (l.map (rowP 4)) 0⟩ :: gonM q)
          refine ACalls.borrowS (concat_ok W [p.2.take x, runeC ⟨fo, ba, bi⟩ r, p.2.drop (x + widthL r)] (by simp) (by omega) (by omega)) (fun b _ => ⟨.rsl _ _ _ _, freeM1 _ _⟩) (sem_three rfl rfl rfl (r1 := p.2.take x) (r2 := runeC ⟨fo, ba, bi⟩ r) (r3 := p.2.drop (x + widthL r)) ?_ ?_ ?_) ?_
          · exact frz_seg hlk 0 x (by omega)
          · rw [show encRow (runeC ⟨fo, ba, bi⟩ r) = PV.sl 4 (List.take (widthL r) ([⟨r, ⟨fo, ba, bi⟩⟩, ⟨0, ⟨fo, ba, bi⟩⟩].map encCell)) by rw [encRow, runeC, List.map_take]]
            exact .refl _
          · have := frz_seg hlk (x + widthL r) (p.2.length - (x + widthL r)) (by omega)
            rw [List.take_of_length_le (by simp)] at this
            rw [Nat.zero_add]
            exact this
          rintro bC -
          refine g0_ ?_
          have hin : nextR false ⟨fo, ba, bi⟩ r x p.2 = (([p.2.take x, runeC ⟨fo, ba, bi⟩ r, p.2.drop (x + widthL r)].flatten).drop 0).take w := by rw [hfl, nextR, hpl]; rfl
          have hil : (nextR false ⟨fo, ba, bi⟩ r x p.2).length = w := by rw [nextR_len (by omega), hpl]
          refine Draws11.tree ⟨13, [.new, .new, .new, .new, .new, .new, .new, .new, .new, .new, .turn, .skip, .skip], (.one 10 [.again, .again, .again, .again, .again, .again, .again, .again, .again, .keep, .keep, .new, .turn] (.one 12 [.keep, .keep, .keep, .keep, .keep, .keep, .keep, .keep, .keep, .keep, .keep, .keep, .keep] .fin)), by decide +kernel, ?_⟩; refine g0_ ?_
          refine ACalls.borrow1 (mendR_ok W (nextR false ⟨fo, ba, bi⟩ r x p.2) (by intro h0; rw [h0] at hil; simp at hil; omega) (by omega)) (fun b _ => ⟨.rsl _ _ _ _, freeM1 _ _⟩) ?_ ?_
          · rw [hin]
            exact frz_seg (.here _ _ _) 0 w (by omega)
          rintro b' -
          rw [List.length_map, mendL_len, hil]
          refine g0_ ?_
          have hnx : mendL (nextR false ⟨fo, ba, bi⟩ r x p.2) = putI false ⟨fo, ba, bi⟩ r x p.2 := next_put (by omega) (by omega)
          have hpl2 : (putI false ⟨fo, ba, bi⟩ r x p.2).length = w := by rw [← hnx, mendL_len, hil]
          rw [hnx, show (l.map (rowP 4)).set (0 + y) (.rsl b' 4 0 w) = (l.set y (b', putI false ⟨fo, ba, bi⟩ r x p.2)).map (rowP 4) by rw [Nat.zero_add, List.map_set, rowP, hpl2]]
          rw [show insB ⟨⟨w, gh, cs⟩, x, y, false, ⟨fo, ba, bi⟩, tp, bo_, modes, tabs, kx, ky, ⟨f2, b2, bi2⟩, km, last, title, gn⟩ = false by simp [insB, hi]] at hP
          have hfm : (l.set y (b', putI false ⟨fo, ba, bi⟩ r x p.2)).map Prod.snd = (l.map Prod.snd).set y (putI false ⟨fo, ba, bi⟩ r x p.2) := by rw [List.map_set]
          rw [← hfm] at hP
          rw [behind] at hP
          dsimp only at hP
          generalize putI false ⟨fo, ba, bi⟩ r x p.2 = nx at *
          by_cases hE : (x : Int) + widthL r < w
          · rw [if_pos hE] at hP
            cases hP
            refine headT_ (head_ ?_); refine g0_ ?_
            refine g1_ ?_
            exact ⟨(q, bo, l.set y (b', nx), g), ⟨rfl, hgo⟩, (by first | rfl | trivial), by (show wkMem _ (_ :: _ :: (gonM q ++ (famM 4 encCell (l.set y (b', nx)) ++ (famM 4 encCell g ++ [])))); rw [List.length_set]; exact wk_put hp b' nx _ _ _ _ _)⟩
          · rw [if_neg hE] at hP
            cases hP
            refine headT_ (head_ ?_); refine g0_ ?_
            refine g1_ ?_
            rw [show (x : Int) + widthL r - 1 = (w : Int) - 1 by omega]
            exact ⟨(q, bo, l.set y (b', nx), g), ⟨rfl, hgo⟩, (by first | rfl | trivial), by (show wkMem _ (_ :: _ :: (gonM q ++ (famM 4 encCell (l.set y (b', nx)) ++ (famM 4 encCell g ++ [])))); rw [List.length_set]; exact wk_put hp b' nx _ _ _ _ _)⟩
        · refine g1_ ?_
          refine Draws11.tree ⟨17, [.new, .new, .new, .new, .new, .new, .new, .new, .new, .new, .turn, .new, .new, .new, .new, .new, .new], (.one 10 [.keep, .keep, .keep, .keep, .keep, .keep, .keep, .keep, .keep, .keep, .keep, .again, .again, .again, .again, .again, .again] .fin), by decide +kernel, ?_⟩; refine g0_ ?_
          have hrl : (runeC ⟨fo, ba, bi⟩ r).length = widthL r := runeC_len _ r
          have hfl : [p.2.take x, runeC ⟨fo, ba, bi⟩ r, p.2.drop x].flatten = p.2.take x ++ runeC ⟨fo, ba, bi⟩ r ++ p.2.drop x := by simp
          have hfn : w ≤ [p.2.take x, runeC ⟨fo, ba, bi⟩ r, p.2.drop x].flatten.length ∧ [p.2.take x, runeC ⟨fo, ba, bi⟩ r, p.2.drop x].flatten.length ≤ 2 * w := by rw [hfl, List.length_append, List.length_append, hrl, List.length_take, List.length_drop]; omega
          have hlk := Look.app (Look.fam (sz := 4) (f := encCell) hp (famM 4 encCell g ++ [])) (⟨d, .row 23 [.agg [.int .i64 w, .int .i64 gh, cv, .int .i64 x, .int .i64 y, .bool false, .int .i64 fo, .int .i64 ba, .int .i64 bi, .int .i64 tp, .int .i64 bo_, .int .i64 modes, tv, .int .i64 kx, .int .i64 ky, .int .i64 f2, .int .i64 b2, .int .i64 bi2, .int .i64 km, .int .i32 last, .str title, gonV q, .rsl bo 1 0 l.length]] 0⟩ :: ⟨bo, .row 1 (l.map (rowP 4)) 0⟩ :: gonM q)
          refine ACalls.borrowS (concat_ok W [p.2.take x, runeC ⟨fo, ba, bi⟩ r, p.2.drop x] (by simp) (by omega) (by omega)) (fun b _ => ⟨.rsl _ _ _ _, freeM1 _ _⟩) (sem_three rfl rfl rfl (r1 := p.2.take x) (r2 := runeC ⟨fo, ba, bi⟩ r) (r3 := p.2.drop x) ?_ ?_ ?_) ?_
          · exact frz_seg hlk 0 x (by omega)
          · rw [show encRow (runeC ⟨fo, ba, bi⟩ r) = PV.sl 4 (List.take (widthL r) ([⟨r, ⟨fo, ba, bi⟩⟩, ⟨0, ⟨fo, ba, bi⟩⟩].map encCell)) by rw [encRow, runeC, List.map_take]]
            exact .refl _
          · have := frz_seg hlk x (p.2.length - x) (by omega)
            rw [List.take_of_length_le (by simp)] at this
            rw [Nat.zero_add]
            exact this
          rintro bC -
          refine g0_ ?_
          have hin : nextR true ⟨fo, ba, bi⟩ r x p.2 = (([p.2.take x, runeC ⟨fo, ba, bi⟩ r, p.2.drop x].flatten).drop 0).take w := by rw [hfl, nextR, hpl]; rfl
          have hil : (nextR true ⟨fo, ba, bi⟩ r x p.2).length = w := by rw [nextR_len (by omega), hpl]
          refine Draws11.tree ⟨13, [.new, .new, .new, .new, .new, .new, .new, .new, .new, .new, .turn, .skip, .skip], (.one 10 [.again, .again, .again, .again, .again, .again, .again, .again, .again, .keep, .keep, .new, .turn] (.one 12 [.keep, .keep, .keep, .keep, .keep, .keep, .keep, .keep, .keep, .keep, .keep, .keep, .keep] .fin)), by decide +kernel, ?_⟩; refine g0_ ?_
          refine ACalls.borrow1 (mendR_ok W (nextR true ⟨fo, ba, bi⟩ r x p.2) (by intro h0; rw [h0] at hil; simp at hil; omega) (by omega)) (fun b _ => ⟨.rsl _ _ _ _, freeM1 _ _⟩) ?_ ?_
          · rw [hin]
            exact frz_seg (.here _ _ _) 0 w (by omega)
          rintro b' -
          rw [List.length_map, mendL_len, hil]
          refine g0_ ?_
          have hnx : mendL (nextR true ⟨fo, ba, bi⟩ r x p.2) = putI true ⟨fo, ba, bi⟩ r x p.2 := next_put (by omega) (by omega)
          have hpl2 : (putI true ⟨fo, ba, bi⟩ r x p.2).length = w := by rw [← hnx, mendL_len, hil]
          rw [hnx, show (l.map (rowP 4)).set (0 + y) (.rsl b' 4 0 w) = (l.set y (b', putI true ⟨fo, ba, bi⟩ r x p.2)).map (rowP 4) by rw [Nat.zero_add, List.map_set, rowP, hpl2]]
          rw [show insB ⟨⟨w, gh, cs⟩, x, y, false, ⟨fo, ba, bi⟩, tp, bo_, modes, tabs, kx, ky, ⟨f2, b2, bi2⟩, km, last, title, gn⟩ = true by simp [insB, hi]] at hP
          have hfm : (l.set y (b', putI true ⟨fo, ba, bi⟩ r x p.2)).map Prod.snd = (l.map Prod.snd).set y (putI true ⟨fo, ba, bi⟩ r x p.2) := by rw [List.map_set]
          rw [← hfm] at hP
          rw [behind] at hP
          dsimp only at hP
          generalize putI true ⟨fo, ba, bi⟩ r x p.2 = nx at *
          by_cases hE : (x : Int) + widthL r < w
          · rw [if_pos hE] at hP
            cases hP
            refine headT_ (head_ ?_); refine g0_ ?_
            refine g1_ ?_
            exact ⟨(q, bo, l.set y (b', nx), g), ⟨rfl, hgo⟩, (by first | rfl | trivial), by (show wkMem _ (_ :: _ :: (gonM q ++ (famM 4 encCell (l.set y (b', nx)) ++ (famM 4 encCell g ++ [])))); rw [List.length_set]; exact wk_put hp b' nx _ _ _ _ _)⟩
          · rw [if_neg hE] at hP
            cases hP
            refine headT_ (head_ ?_); refine g0_ ?_
            refine g1_ ?_
            rw [show (x : Int) + widthL r - 1 = (w : Int) - 1 by omega]
            exact ⟨(q, bo, l.set y (b', nx), g), ⟨rfl, hgo⟩, (by first | rfl | trivial), by (show wkMem _ (_ :: _ :: (gonM q ++ (famM 4 encCell (l.set y (b', nx)) ++ (famM 4 encCell g ++ [])))); rw [List.length_set]; exact wk_put hp b' nx _ _ _ _ _)⟩
end Go.Eng.YtphoefglfbifdaaDoor
end
