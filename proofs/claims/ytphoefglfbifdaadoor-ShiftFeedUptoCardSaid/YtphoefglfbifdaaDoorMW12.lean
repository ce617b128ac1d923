/- Texts put together: ScrP2. -/
import Derived.Test.YtphoefglfbifdaaDoorMW7
import Derived.Test.YtphoefglfbifdaaDoorMW5
/- Screens under way: package put's Feed and Print, in full. -/
section
namespace Go.Eng.YtphoefglfbifdaaDoor
open Go Go.Eng Go.Proofs
variable (W : World)
set_option linter.unusedSimpArgs false
set_option maxRecDepth 100000
set_option linter.unusedVariables false
set_option maxHeartbeats 8000000
/-- The memory of a screen under way. -/
abbrev wkM (b bc N : Nat) (tv : PV) (bg : Nat) (pre : List PV) (p : Wk) : Mem := [scrB b bc N tv (.rsl bg 1 pre.length p.2.2.length) p.1, ⟨bc, .row 4 (p.2.1.flatten.map encCell) 0⟩, gonB bg pre p.2.2]
theorem feedW_ok (b bc : Nat) (tv : PV) (p : Wk) {w h : Nat} (hw : p.1.g.w = w) (hh : p.1.g.h = h) (f : RowsOk p.2.1 w h) (hy : 0 ≤ p.1.y ∧ p.1.y < h) (ht : 0 ≤ p.1.top ∧ p.1.top ≤ p.1.bottom ∧ p.1.bottom < h)
    (bg : Nat) (pre : List PV) (hp : pre = [] ∨ p.2.2 ≠ []) (hg : p.2.2.length ≤ 50) :
    ACalls Tryd.prog W 49 [.bref b 0] (wkM b bc (h * w) tv bg pre p)
      (Gives (fun _ : Nat × List PV => .tup []) (fun x => wkM b bc (h * w) tv x.1 x.2 (feedW p)) (fun x => x.2 = [] ∨ (feedW p).2.2 ≠ [])) := by
  obtain ⟨s, L, G⟩ := p
  dsimp only at *
  obtain ⟨top, hto⟩ := Int.eq_ofNat_of_zero_le ht.1
  obtain ⟨bottom, hbo⟩ := Int.eq_ofNat_of_zero_le (show 0 ≤ s.bottom by omega)
  by_cases hyb : s.y = s.bottom
  · have h1 := feedUp_ok W b bc tv s f hw hh top bottom (by omega) (by omega) hto hbo hyb bg pre G hp hg
    have e : feedW (s, L, G) = ({ s with late := false }, stepU s.look.back w top bottom (L, G)) := by
      rw [feedW]
      dsimp only
      rw [if_pos hyb, hw, hto, hbo, Int.toNat_natCast, Int.toNat_natCast, Int.toNat_natCast]
    rw [e]
    exact h1
  · have e : feedW (s, L, G) = (feedY s, L, G) := by
      rw [feedW]
      dsimp only
      rw [if_neg hyb]
    rw [e]
    have h2 := f.h1
    have h3 := f.h2
    refine ACalls.lend (feed1_ok W b bc (h * w) tv (.rsl bg 1 pre.length G.length) s hyb (by unfold i64ok; omega) (by omega)) (r := [⟨bc, .row 4 (L.flatten.map encCell) 0⟩, gonB bg pre G]) (.refl _) ?_
    rintro _ -
    exact ⟨(bg, pre), hp, rfl, wkMem.rfl'⟩
theorem ins_row (s : Scr) (a b : List Cell) : (if insB s = true then a else b) = if bitop .and .i64 s.modes 1 = 0 then b else a := by
  unfold insB
  by_cases h : bitop .and .i64 s.modes 1 = 0 <;> simp [h]
theorem ins_copy {pre row post : List Cell} {a x k w : Nat} (ha : a = pre.length) (hr : row.length = w) (hx : x + k ≤ w) {n m : Nat} (hn : n = w - (x + k)) (hm : m = w - x) :
    ((pre ++ row ++ post).map encCell).take (a + (x + k)) ++ ((((pre ++ row ++ post).drop (a + x)).take m).map encCell).take n ++ ((pre ++ row ++ post).map encCell).drop (a + (x + k) + min n ((((pre ++ row ++ post).drop (a + x)).take m).map encCell).length) = (pre ++ insR x k row ++ post).map encCell := by
  subst ha hr hn hm
  have e1 : ((pre ++ row ++ post).drop (pre.length + x)).take (row.length - x) = row.drop x := by
    rw [List.append_assoc, ← List.drop_drop, List.drop_left, List.drop_append_of_le_length (by omega), List.take_append_of_le_length (by simp), List.take_of_length_le (by simp)]
  rw [e1, List.length_map, List.length_drop, Nat.min_eq_left (by omega)]
  simp only [← List.map_drop, ← List.map_take, ← List.map_append]
  congr 1
  rw [show pre.length + (x + k) + (row.length - (x + k)) = (pre ++ row).length by simp; omega, List.drop_left, List.append_assoc pre row post, List.take_length_add_append, List.take_append_of_le_length hx, insR]
  simp only [List.append_assoc]
theorem printW_ok (b bc : Nat) (tv : PV) (p : Wk) {w h : Nat} (hk : WkR p w h) (r : Int) (hr : i32ok r) (bg : Nat) (pre : List PV) (hp : pre = [] ∨ p.2.2 ≠ []) :
    ACalls Tryd.prog W 26 [.bref b 0, .int .i32 r] (wkM b bc (h * w) tv bg pre p)
      (Gives (fun _ : Nat × List PV => .tup []) (fun x => wkM b bc (h * w) tv x.1 x.2 (printW p r)) (fun x => x.2 = [] ∨ (printW p r).2.2 ≠ [])) := by
  have hww := widthL_le r
  have hw1 := hk.rows.ok.w1
  have hw2 := hk.rows.ok.w2
  have hh1 := hk.rows.ok.h1
  have hh2 := hk.rows.ok.h2
  have hsm := hk.rows.ok.small
  obtain ⟨s, L, G⟩ := p
  have ew : s.g.w = w := hk.ew
  have eh : s.g.h = h := hk.eh
  have hxy : 0 ≤ s.x ∧ s.x < s.g.w ∧ 0 ≤ s.y ∧ s.y < s.g.h := hk.R.xy
  have htb : 0 ≤ s.top ∧ s.bottom < s.g.h ∧ s.top ≤ s.bottom ∧ (s.top = s.bottom → s.g.h ≤ 1) := hk.R.tb
  generalize hP : printW (s, L, G) r = P
  obtain ⟨Ps, PL, PG⟩ := P
  rw [printW] at hP
  dsimp only at hP hp ⊢
  by_cases h0 : widthL r = 0 ∨ s.g.w < widthL r
  · rw [if_pos h0] at hP
    cases hP
    have hB : scrB b bc (h * w) tv (.rsl bg 1 pre.length G.length) s = ⟨b, .row 22 [.agg [.int .i64 s.g.w, .int .i64 s.g.h, .rsl bc 4 0 (h * w), .int .i64 s.x, .int .i64 s.y, .bool s.late, .int .i64 s.look.fore, .int .i64 s.look.back, .int .i64 s.look.bits, .int .i64 s.top, .int .i64 s.bottom, .int .i64 s.modes, tv, .int .i64 s.kx, .int .i64 s.ky, .int .i64 s.ks.fore, .int .i64 s.ks.back, .int .i64 s.ks.bits, .int .i64 s.km, .int .i32 s.last, .str s.title, .rsl bg 1 pre.length G.length]] 0⟩ := rfl
    rw [show wkM b bc (h * w) tv bg pre (s, L, G) = [scrB b bc (h * w) tv (.rsl bg 1 pre.length G.length) s, ⟨bc, .row 4 (L.flatten.map encCell) 0⟩, gonB bg pre G] from rfl, hB]
    refine acalls_of_vc (drawOk W) Tryd.func26 rfl (by decide) (by decide) rfl ?_
    (refine g0_ ?_; repeat ((first | refine n1_ fun b_ => ?_ | refine n2_ fun b_ => ?_ | refine n3_ fun b_ pre_ => ?_ | refine Nat1.mk fun q_ hq_ => ?_ | refine em_ fun x_ hx_ => ?_ | refine Elem1.mk fun e_ he_ => ?_); refine g0_ ?_))
    refine (width_ok W r).use ?_; (refine g0_ ?_; repeat ((first | refine n1_ fun b_ => ?_ | refine n2_ fun b_ => ?_ | refine n3_ fun b_ pre_ => ?_ | refine Nat1.mk fun q_ hq_ => ?_ | refine em_ fun x_ hx_ => ?_ | refine Elem1.mk fun e_ he_ => ?_); refine g0_ ?_))
    refine brec ?_; intro c_ h1; (try rw [h1]); cases c_ <;> replace h1 := nm_ h1
    · exact absurd h0 (by omega)
    · (refine g0_ ?_; repeat ((first | refine n1_ fun b_ => ?_ | refine n2_ fun b_ => ?_ | refine n3_ fun b_ pre_ => ?_ | refine Nat1.mk fun q_ hq_ => ?_ | refine em_ fun x_ hx_ => ?_ | refine Elem1.mk fun e_ he_ => ?_); refine g0_ ?_))
      exact ⟨(bg, pre), hp, rfl, wkMem.rfl'⟩
  · rw [if_neg h0] at hP
    by_cases hl : leaves s (widthL r)
    · rw [beforeW] at hP
      dsimp only at hP
      rw [if_pos hl] at hP
      have hwk := feedW_right hk 0 (by omega)
      have hlt := feedW_late ({ s with x := 0 }, L, G)
      have hfeed := feedW_ok W b bc tv ({ s with x := 0 }, L, G) ew eh hk.rows.ok (by show 0 ≤ s.y ∧ s.y < h; omega) (by show 0 ≤ s.top ∧ s.top ≤ s.bottom ∧ s.bottom < h; omega) bg pre hp hk.gone.len
      have feedX := feedW_x ({ s with x := 0 }, L, G)
      have hmo := feedW_modes ({ s with x := 0 }, L, G)
      generalize feedW ({ s with x := 0 }, L, G) = q at *
      obtain ⟨t, M, G'⟩ := q
      have ewt : t.g.w = w := hwk.ew
      have eht : t.g.h = h := hwk.eh
      have hxt : 0 ≤ t.x ∧ t.x < t.g.w ∧ 0 ≤ t.y ∧ t.y < t.g.h := hwk.R.xy
      have fM : RowsOk M w h := hwk.rows.ok
      replace hlt : t.late = false := hlt
      replace hmo : t.modes = s.modes := hmo
      have hx0 : t.x = 0 := feedX
      clear hk hwk htb
      rw [afterW] at hP
      dsimp only at hP
      obtain ⟨⟨gw, gh, cs⟩, X, Y, lt, ⟨fo, ba, bi⟩, tp, bo, modes, tabs, kx, ky, ⟨f2, b2, bi2⟩, km, last, title, gone⟩ := t
      dsimp only at ewt eht hlt hxt hP
      (try dsimp only at hx0)
      subst ewt eht hlt
      obtain ⟨x, rfl⟩ := Int.eq_ofNat_of_zero_le hxt.1
      obtain ⟨y, rfl⟩ := Int.eq_ofNat_of_zero_le hxt.2.2.1
      have hyw : (y + 1) * w ≤ h * w := Nat.mul_le_mul_right _ (by omega)
      have hyw2 : y * w + w ≤ h * w := by rw [← Nat.succ_mul]; exact hyw
      obtain ⟨row, hrow, hrl⟩ := fM.at (y := y) (by omega)
      have hpre := take_flat_len fM.row (y := y) (by rw [fM.len]; omega)
      have hflS : ∀ R, (M.set y R).flatten = (M.take y).flatten ++ R ++ (M.drop (y + 1)).flatten := fun R => flat_set hrow R
      have hflL := flat_at hrow
      rw [Int.toNat_natCast, Int.toNat_natCast, List.getD_eq_getElem?_getD, hrow, Option.getD_some, putI] at hP
      rw [ins_row] at hP
      dsimp only at hP
      generalize hrow' : (if bitop .and .i64 modes 1 = 0 then row else insR x (widthL r) row) = row' at hP
      have hfl := fM.flat
      rw [hflL] at hfl
      generalize (M.take y).flatten = pr at *
      generalize (M.drop (y + 1)).flatten = post at *
      obtain ⟨⟨gw', gh', cs'⟩, X', Y', lt', ⟨fo', ba', bi'⟩, tp', bo', modes', tabs', kx', ky', ⟨f2', b2', bi2'⟩, km', last', title', gone'⟩ := s
      dsimp only at ew eh h0 hmo hfeed hl hxy ⊢
      subst ew eh hmo
      unfold leaves at hl
      dsimp only [wrapB] at hl
      have hfeed' : ACalls Tryd.prog W 49 [.bref b 0] [⟨b, .row 22 [.agg [.int .i64 w, .int .i64 h, .rsl bc 4 0 (h * w), .int .i64 0, .int .i64 Y', .bool lt', .int .i64 fo', .int .i64 ba', .int .i64 bi', .int .i64 tp', .int .i64 bo', .int .i64 modes, tv, .int .i64 kx', .int .i64 ky', .int .i64 f2', .int .i64 b2', .int .i64 bi2', .int .i64 km', .int .i32 last', .str title', .rsl bg 1 pre.length G.length]] 0⟩, ⟨bc, .row 4 (L.flatten.map encCell) 0⟩, gonB bg pre G]
          (Gives (fun _ : Nat × List PV => .tup []) (fun z => [⟨b, .row 22 [.agg [.int .i64 w, .int .i64 h, .rsl bc 4 0 (h * w), .int .i64 x, .int .i64 y, .bool false, .int .i64 fo, .int .i64 ba, .int .i64 bi, .int .i64 tp, .int .i64 bo, .int .i64 modes, tv, .int .i64 kx, .int .i64 ky, .int .i64 f2, .int .i64 b2, .int .i64 bi2, .int .i64 km, .int .i32 last, .str title, .rsl z.1 1 z.2.length G'.length]] 0⟩, ⟨bc, .row 4 ((pr ++ row ++ post).map encCell) 0⟩, gonB z.1 z.2 G']) (fun x => x.2 = [] ∨ G' ≠ [])) := by
        rw [← hflL]
        exact hfeed
      clear hfeed
      have hM0 : wkM b bc (h * w) tv bg pre (⟨⟨w, h, cs'⟩, X', Y', lt', ⟨fo', ba', bi'⟩, tp', bo', modes, tabs', kx', ky', ⟨f2', b2', bi2'⟩, km', last', title', gone'⟩, L, G) = [⟨b, .row 22 [.agg [.int .i64 w, .int .i64 h, .rsl bc 4 0 (h * w), .int .i64 X', .int .i64 Y', .bool lt', .int .i64 fo', .int .i64 ba', .int .i64 bi', .int .i64 tp', .int .i64 bo', .int .i64 modes, tv, .int .i64 kx', .int .i64 ky', .int .i64 f2', .int .i64 b2', .int .i64 bi2', .int .i64 km', .int .i32 last', .str title', .rsl bg 1 pre.length G.length]] 0⟩, ⟨bc, .row 4 (L.flatten.map encCell) 0⟩, gonB bg pre G] := rfl
      rw [hM0]
      clear hM0
      by_cases hB : (w : Int) < x + widthL r
      · exact absurd h0 (by omega)
      · rw [if_neg hB] at hP
        by_cases hA : lt' = true
        · subst hA
          clear hl
          refine acalls_of_vc (drawOk W) Tryd.func26 rfl (by decide) (by decide) rfl ?_
          (refine g0_ ?_; repeat ((first | refine n1_ fun b_ => ?_ | refine n2_ fun b_ => ?_ | refine n3_ fun b_ pre_ => ?_ | refine Nat1.mk fun q_ hq_ => ?_ | refine em_ fun x_ hx_ => ?_ | refine Elem1.mk fun e_ he_ => ?_); refine g0_ ?_))
          refine (width_ok W r).use ?_; (refine g0_ ?_; repeat ((first | refine n1_ fun b_ => ?_ | refine n2_ fun b_ => ?_ | refine n3_ fun b_ pre_ => ?_ | refine Nat1.mk fun q_ hq_ => ?_ | refine em_ fun x_ hx_ => ?_ | refine Elem1.mk fun e_ he_ => ?_); refine g0_ ?_))
          (refine g1_ ?_; repeat ((first | refine n1_ fun b_ => ?_ | refine n2_ fun b_ => ?_ | refine n3_ fun b_ pre_ => ?_ | refine Nat1.mk fun q_ hq_ => ?_ | refine em_ fun x_ hx_ => ?_ | refine Elem1.mk fun e_ he_ => ?_); refine g1_ ?_))
          refine head_ ?_; (refine g0_ ?_; repeat ((first | refine n1_ fun b_ => ?_ | refine n2_ fun b_ => ?_ | refine n3_ fun b_ pre_ => ?_ | refine Nat1.mk fun q_ hq_ => ?_ | refine em_ fun x_ hx_ => ?_ | refine Elem1.mk fun e_ he_ => ?_); refine g0_ ?_))
          (refine g1_ ?_; repeat ((first | refine n1_ fun b_ => ?_ | refine n2_ fun b_ => ?_ | refine n3_ fun b_ pre_ => ?_ | refine Nat1.mk fun q_ hq_ => ?_ | refine em_ fun x_ hx_ => ?_ | refine Elem1.mk fun e_ he_ => ?_); refine g1_ ?_))
          refine ACalls.lend hfeed' (r := []) (.refl _) ?_
          rintro ⟨bg', pre'⟩ hp'
          dsimp only at hp'
          (refine g0_ ?_; repeat ((first | refine n1_ fun b_ => ?_ | refine n2_ fun b_ => ?_ | refine n3_ fun b_ pre_ => ?_ | refine Nat1.mk fun q_ hq_ => ?_ | refine em_ fun x_ hx_ => ?_ | refine Elem1.mk fun e_ he_ => ?_); refine g0_ ?_))
          refine head_ ?_; (refine g0_ ?_; repeat ((first | refine n1_ fun b_ => ?_ | refine n2_ fun b_ => ?_ | refine n3_ fun b_ pre_ => ?_ | refine Nat1.mk fun q_ hq_ => ?_ | refine em_ fun x_ hx_ => ?_ | refine Elem1.mk fun e_ he_ => ?_); refine g0_ ?_))
          (refine g1_ ?_; repeat ((first | refine n1_ fun b_ => ?_ | refine n2_ fun b_ => ?_ | refine n3_ fun b_ pre_ => ?_ | refine Nat1.mk fun q_ hq_ => ?_ | refine em_ fun x_ hx_ => ?_ | refine Elem1.mk fun e_ he_ => ?_); refine g1_ ?_))
          refine head_ ?_; (refine g0_ ?_; repeat ((first | refine n1_ fun b_ => ?_ | refine n2_ fun b_ => ?_ | refine n3_ fun b_ pre_ => ?_ | refine Nat1.mk fun q_ hq_ => ?_ | refine em_ fun x_ hx_ => ?_ | refine Elem1.mk fun e_ he_ => ?_); refine g0_ ?_))
          refine ⟨_, (rowOwn_ok W bc (h * w) w y h hyw (by omega) (by omega) (by omega)).quiet, ?_⟩; (refine g0_ ?_; repeat ((first | refine n1_ fun b_ => ?_ | refine n2_ fun b_ => ?_ | refine n3_ fun b_ pre_ => ?_ | refine Nat1.mk fun q_ hq_ => ?_ | refine em_ fun x_ hx_ => ?_ | refine Elem1.mk fun e_ he_ => ?_); refine g0_ ?_))
          by_cases hi : bitop .and .i64 modes 1 = 0
          · rw [if_pos hi] at hrow'
            have hrow2 := hrow'.symm
            subst hrow2
            have hrl' := hrl
            (refine g1_ ?_; repeat ((first | refine n1_ fun b_ => ?_ | refine n2_ fun b_ => ?_ | refine n3_ fun b_ pre_ => ?_ | refine Nat1.mk fun q_ hq_ => ?_ | refine em_ fun x_ hx_ => ?_ | refine Elem1.mk fun e_ he_ => ?_); refine g1_ ?_))
            refine head_ ?_; (refine g0_ ?_; repeat ((first | refine n1_ fun b_ => ?_ | refine n2_ fun b_ => ?_ | refine n3_ fun b_ pre_ => ?_ | refine Nat1.mk fun q_ hq_ => ?_ | refine em_ fun x_ hx_ => ?_ | refine Elem1.mk fun e_ he_ => ?_); refine g0_ ?_))
            rw [show (PV.agg [PV.int .i32 r, PV.int .i64 fo, PV.int .i64 ba, PV.int .i64 bi]) = .agg [.int .i32 (Cell.mk r ⟨fo, ba, bi⟩).r, .int .i64 (Cell.mk r ⟨fo, ba, bi⟩).s.fore, .int .i64 (Cell.mk r ⟨fo, ba, bi⟩).s.back, .int .i64 (Cell.mk r ⟨fo, ba, bi⟩).s.bits] from rfl, set_mid (by omega) (Cell.mk r ⟨fo, ba, bi⟩) hpre.symm]
            by_cases h2 : widthL r = 2
            · rw [putR, if_pos h2] at hP
              (refine g1_ ?_; repeat ((first | refine n1_ fun b_ => ?_ | refine n2_ fun b_ => ?_ | refine n3_ fun b_ pre_ => ?_ | refine Nat1.mk fun q_ hq_ => ?_ | refine em_ fun x_ hx_ => ?_ | refine Elem1.mk fun e_ he_ => ?_); refine g1_ ?_))
              refine head_ ?_; (refine g0_ ?_; repeat ((first | refine n1_ fun b_ => ?_ | refine n2_ fun b_ => ?_ | refine n3_ fun b_ pre_ => ?_ | refine Nat1.mk fun q_ hq_ => ?_ | refine em_ fun x_ hx_ => ?_ | refine Elem1.mk fun e_ he_ => ?_); refine g0_ ?_))
              rw [show (PV.agg [ofV1 (Value.int IntKind.i32 0), .int .i64 fo, .int .i64 ba, .int .i64 bi]) = .agg [.int .i32 (Cell.mk 0 ⟨fo, ba, bi⟩).r, .int .i64 (Cell.mk 0 ⟨fo, ba, bi⟩).s.fore, .int .i64 (Cell.mk 0 ⟨fo, ba, bi⟩).s.back, .int .i64 (Cell.mk 0 ⟨fo, ba, bi⟩).s.bits] from rfl, set_mid (x := x + 1) (by rw [List.length_set]; omega) (Cell.mk 0 ⟨fo, ba, bi⟩) hpre.symm]
              have hm := mend_ok W bc pr ((row'.set x (Cell.mk r ⟨fo, ba, bi⟩)).set (x + 1) (Cell.mk 0 ⟨fo, ba, bi⟩)) post (by rw [List.length_set, List.length_set]; omega)
              rw [hpre, List.length_set, List.length_set, hrl'] at hm
              refine ACalls.lend1 hm (by repeat (first | exact .here _ _ _ | apply Look.there)) ?_
              rintro _ -
              rw [← hflS (mendL _)]
              (refine g0_ ?_; repeat ((first | refine n1_ fun b_ => ?_ | refine n2_ fun b_ => ?_ | refine n3_ fun b_ pre_ => ?_ | refine Nat1.mk fun q_ hq_ => ?_ | refine em_ fun x_ hx_ => ?_ | refine Elem1.mk fun e_ he_ => ?_); refine g0_ ?_))
              refine head_ ?_; (refine g0_ ?_; repeat ((first | refine n1_ fun b_ => ?_ | refine n2_ fun b_ => ?_ | refine n3_ fun b_ pre_ => ?_ | refine Nat1.mk fun q_ hq_ => ?_ | refine em_ fun x_ hx_ => ?_ | refine Elem1.mk fun e_ he_ => ?_); refine g0_ ?_))
              rw [behind] at hP
              dsimp only at hP
              by_cases hE : (x : Int) + widthL r < w
              · rw [if_pos hE] at hP
                cases hP
                (refine g1_ ?_; repeat ((first | refine n1_ fun b_ => ?_ | refine n2_ fun b_ => ?_ | refine n3_ fun b_ pre_ => ?_ | refine Nat1.mk fun q_ hq_ => ?_ | refine em_ fun x_ hx_ => ?_ | refine Elem1.mk fun e_ he_ => ?_); refine g1_ ?_))
                exact ⟨(bg', pre'), hp', rfl, by (first | exact ⟨_, .refl _⟩ | exact wkMem.rfl' | exact ⟨_, .swap _ _ _⟩ | (repeat (first | exact wkMem.nil _ | exact wkMem.rfl' | exact wk_snoc _ _ _ | exact wk_fam (by assumption) _ _ _ | exact wk_famN (by assumption) _ _ _ | (apply wkMem.cons; (case' hl => (repeat (first | exact .here _ _ _ | apply Look.there)))) | apply wkMem.skip)))⟩
              · rw [if_neg hE] at hP
                try simp only [wrapB, hC, not_false_eq_true, decide_true] at hP
                cases hP
                (refine g1_ ?_; repeat ((first | refine n1_ fun b_ => ?_ | refine n2_ fun b_ => ?_ | refine n3_ fun b_ pre_ => ?_ | refine Nat1.mk fun q_ hq_ => ?_ | refine em_ fun x_ hx_ => ?_ | refine Elem1.mk fun e_ he_ => ?_); refine g1_ ?_))
                exact ⟨(bg', pre'), hp', rfl, by (first | exact ⟨_, .refl _⟩ | exact wkMem.rfl' | exact ⟨_, .swap _ _ _⟩ | (repeat (first | exact wkMem.nil _ | exact wkMem.rfl' | exact wk_snoc _ _ _ | exact wk_fam (by assumption) _ _ _ | exact wk_famN (by assumption) _ _ _ | (apply wkMem.cons; (case' hl => (repeat (first | exact .here _ _ _ | apply Look.there)))) | apply wkMem.skip)))⟩
            · first
                | (exfalso; omega)
                | (skip
                   rw [putR, if_neg h2] at hP
                   (refine g1_ ?_; repeat ((first | refine n1_ fun b_ => ?_ | refine n2_ fun b_ => ?_ | refine n3_ fun b_ pre_ => ?_ | refine Nat1.mk fun q_ hq_ => ?_ | refine em_ fun x_ hx_ => ?_ | refine Elem1.mk fun e_ he_ => ?_); refine g1_ ?_))
                   have hm := mend_ok W bc pr (row'.set x (Cell.mk r ⟨fo, ba, bi⟩)) post (by rw [List.length_set]; omega)
                   rw [hpre, List.length_set, hrl'] at hm
                   refine ACalls.lend1 hm (by repeat (first | exact .here _ _ _ | apply Look.there)) ?_
                   rintro _ -
                   rw [← hflS (mendL _)]
                   (refine g0_ ?_; repeat ((first | refine n1_ fun b_ => ?_ | refine n2_ fun b_ => ?_ | refine n3_ fun b_ pre_ => ?_ | refine Nat1.mk fun q_ hq_ => ?_ | refine em_ fun x_ hx_ => ?_ | refine Elem1.mk fun e_ he_ => ?_); refine g0_ ?_))
                   refine head_ ?_; (refine g0_ ?_; repeat ((first | refine n1_ fun b_ => ?_ | refine n2_ fun b_ => ?_ | refine n3_ fun b_ pre_ => ?_ | refine Nat1.mk fun q_ hq_ => ?_ | refine em_ fun x_ hx_ => ?_ | refine Elem1.mk fun e_ he_ => ?_); refine g0_ ?_))
                   rw [behind] at hP
                   dsimp only at hP
                   by_cases hE : (x : Int) + widthL r < w
                   · rw [if_pos hE] at hP
                     cases hP
                     (refine g1_ ?_; repeat ((first | refine n1_ fun b_ => ?_ | refine n2_ fun b_ => ?_ | refine n3_ fun b_ pre_ => ?_ | refine Nat1.mk fun q_ hq_ => ?_ | refine em_ fun x_ hx_ => ?_ | refine Elem1.mk fun e_ he_ => ?_); refine g1_ ?_))
                     exact ⟨(bg', pre'), hp', rfl, by (first | exact ⟨_, .refl _⟩ | exact wkMem.rfl' | exact ⟨_, .swap _ _ _⟩ | (repeat (first | exact wkMem.nil _ | exact wkMem.rfl' | exact wk_snoc _ _ _ | exact wk_fam (by assumption) _ _ _ | exact wk_famN (by assumption) _ _ _ | (apply wkMem.cons; (case' hl => (repeat (first | exact .here _ _ _ | apply Look.there)))) | apply wkMem.skip)))⟩
                   · rw [if_neg hE] at hP
                     try simp only [wrapB, hC, not_false_eq_true, decide_true] at hP
                     cases hP
                     (refine g1_ ?_; repeat ((first | refine n1_ fun b_ => ?_ | refine n2_ fun b_ => ?_ | refine n3_ fun b_ pre_ => ?_ | refine Nat1.mk fun q_ hq_ => ?_ | refine em_ fun x_ hx_ => ?_ | refine Elem1.mk fun e_ he_ => ?_); refine g1_ ?_))
                     exact ⟨(bg', pre'), hp', rfl, by (first | exact ⟨_, .refl _⟩ | exact wkMem.rfl' | exact ⟨_, .swap _ _ _⟩ | (repeat (first | exact wkMem.nil _ | exact wkMem.rfl' | exact wk_snoc _ _ _ | exact wk_fam (by assumption) _ _ _ | exact wk_famN (by assumption) _ _ _ | (apply wkMem.cons; (case' hl => (repeat (first | exact .here _ _ _ | apply Look.there)))) | apply wkMem.skip)))⟩
                   )
          · rw [if_neg hi] at hrow'
            have hrl' : row'.length = w := by rw [← hrow', insR_len (by omega), hrl]
            (refine g1_ ?_; repeat ((first | refine n1_ fun b_ => ?_ | refine n2_ fun b_ => ?_ | refine n3_ fun b_ pre_ => ?_ | refine Nat1.mk fun q_ hq_ => ?_ | refine em_ fun x_ hx_ => ?_ | refine Elem1.mk fun e_ he_ => ?_); refine g1_ ?_))
            refine head_ ?_; (refine g0_ ?_; repeat ((first | refine n1_ fun b_ => ?_ | refine n2_ fun b_ => ?_ | refine n3_ fun b_ pre_ => ?_ | refine Nat1.mk fun q_ hq_ => ?_ | refine em_ fun x_ hx_ => ?_ | refine Elem1.mk fun e_ he_ => ?_); refine g0_ ?_))
            refine ⟨_, cloneQ_cells W bc (y * w + x) (w - x) (pr ++ row ++ post) (by omega) (by rw [hfl]; omega) (by omega) (by repeat (first | exact .here _ _ _ | apply Look.there)), ?_⟩
            (refine g0_ ?_; repeat ((first | refine n1_ fun b_ => ?_ | refine n2_ fun b_ => ?_ | refine n3_ fun b_ pre_ => ?_ | refine Nat1.mk fun q_ hq_ => ?_ | refine em_ fun x_ hx_ => ?_ | refine Elem1.mk fun e_ he_ => ?_); refine g0_ ?_))
            refine need.mk ⟨by rw [List.length_map, hfl]; omega, cells_all _, Nat.zero_le _⟩ ?_
            rw [ins_copy (a := y * w) (w := w) hpre.symm hrl (by omega) rfl rfl, hrow']
            (refine g0_ ?_; repeat ((first | refine n1_ fun b_ => ?_ | refine n2_ fun b_ => ?_ | refine n3_ fun b_ pre_ => ?_ | refine Nat1.mk fun q_ hq_ => ?_ | refine em_ fun x_ hx_ => ?_ | refine Elem1.mk fun e_ he_ => ?_); refine g0_ ?_))
            refine head_ ?_; (refine g0_ ?_; repeat ((first | refine n1_ fun b_ => ?_ | refine n2_ fun b_ => ?_ | refine n3_ fun b_ pre_ => ?_ | refine Nat1.mk fun q_ hq_ => ?_ | refine em_ fun x_ hx_ => ?_ | refine Elem1.mk fun e_ he_ => ?_); refine g0_ ?_))
            rw [show (PV.agg [PV.int .i32 r, PV.int .i64 fo, PV.int .i64 ba, PV.int .i64 bi]) = .agg [.int .i32 (Cell.mk r ⟨fo, ba, bi⟩).r, .int .i64 (Cell.mk r ⟨fo, ba, bi⟩).s.fore, .int .i64 (Cell.mk r ⟨fo, ba, bi⟩).s.back, .int .i64 (Cell.mk r ⟨fo, ba, bi⟩).s.bits] from rfl, set_mid (by omega) (Cell.mk r ⟨fo, ba, bi⟩) hpre.symm]
            by_cases h2 : widthL r = 2
            · rw [putR, if_pos h2] at hP
              (refine g1_ ?_; repeat ((first | refine n1_ fun b_ => ?_ | refine n2_ fun b_ => ?_ | refine n3_ fun b_ pre_ => ?_ | refine Nat1.mk fun q_ hq_ => ?_ | refine em_ fun x_ hx_ => ?_ | refine Elem1.mk fun e_ he_ => ?_); refine g1_ ?_))
              refine head_ ?_; (refine g0_ ?_; repeat ((first | refine n1_ fun b_ => ?_ | refine n2_ fun b_ => ?_ | refine n3_ fun b_ pre_ => ?_ | refine Nat1.mk fun q_ hq_ => ?_ | refine em_ fun x_ hx_ => ?_ | refine Elem1.mk fun e_ he_ => ?_); refine g0_ ?_))
              rw [show (PV.agg [ofV1 (Value.int IntKind.i32 0), .int .i64 fo, .int .i64 ba, .int .i64 bi]) = .agg [.int .i32 (Cell.mk 0 ⟨fo, ba, bi⟩).r, .int .i64 (Cell.mk 0 ⟨fo, ba, bi⟩).s.fore, .int .i64 (Cell.mk 0 ⟨fo, ba, bi⟩).s.back, .int .i64 (Cell.mk 0 ⟨fo, ba, bi⟩).s.bits] from rfl, set_mid (x := x + 1) (by rw [List.length_set]; omega) (Cell.mk 0 ⟨fo, ba, bi⟩) hpre.symm]
              have hm := mend_ok W bc pr ((row'.set x (Cell.mk r ⟨fo, ba, bi⟩)).set (x + 1) (Cell.mk 0 ⟨fo, ba, bi⟩)) post (by rw [List.length_set, List.length_set]; omega)
              rw [hpre, List.length_set, List.length_set, hrl'] at hm
              refine ACalls.lend1 hm (by repeat (first | exact .here _ _ _ | apply Look.there)) ?_
              rintro _ -
              rw [← hflS (mendL _)]
              (refine g0_ ?_; repeat ((first | refine n1_ fun b_ => ?_ | refine n2_ fun b_ => ?_ | refine n3_ fun b_ pre_ => ?_ | refine Nat1.mk fun q_ hq_ => ?_ | refine em_ fun x_ hx_ => ?_ | refine Elem1.mk fun e_ he_ => ?_); refine g0_ ?_))
              refine head_ ?_; (refine g0_ ?_; repeat ((first | refine n1_ fun b_ => ?_ | refine n2_ fun b_ => ?_ | refine n3_ fun b_ pre_ => ?_ | refine Nat1.mk fun q_ hq_ => ?_ | refine em_ fun x_ hx_ => ?_ | refine Elem1.mk fun e_ he_ => ?_); refine g0_ ?_))
              rw [behind] at hP
              dsimp only at hP
              by_cases hE : (x : Int) + widthL r < w
              · rw [if_pos hE] at hP
                cases hP
                (refine g1_ ?_; repeat ((first | refine n1_ fun b_ => ?_ | refine n2_ fun b_ => ?_ | refine n3_ fun b_ pre_ => ?_ | refine Nat1.mk fun q_ hq_ => ?_ | refine em_ fun x_ hx_ => ?_ | refine Elem1.mk fun e_ he_ => ?_); refine g1_ ?_))
                exact ⟨(bg', pre'), hp', rfl, by (first | exact ⟨_, .refl _⟩ | exact wkMem.rfl' | exact ⟨_, .swap _ _ _⟩ | (repeat (first | exact wkMem.nil _ | exact wkMem.rfl' | exact wk_snoc _ _ _ | exact wk_fam (by assumption) _ _ _ | exact wk_famN (by assumption) _ _ _ | (apply wkMem.cons; (case' hl => (repeat (first | exact .here _ _ _ | apply Look.there)))) | apply wkMem.skip)))⟩
              · rw [if_neg hE] at hP
                try simp only [wrapB, hC, not_false_eq_true, decide_true] at hP
                cases hP
                (refine g1_ ?_; repeat ((first | refine n1_ fun b_ => ?_ | refine n2_ fun b_ => ?_ | refine n3_ fun b_ pre_ => ?_ | refine Nat1.mk fun q_ hq_ => ?_ | refine em_ fun x_ hx_ => ?_ | refine Elem1.mk fun e_ he_ => ?_); refine g1_ ?_))
                exact ⟨(bg', pre'), hp', rfl, by (first | exact ⟨_, .refl _⟩ | exact wkMem.rfl' | exact ⟨_, .swap _ _ _⟩ | (repeat (first | exact wkMem.nil _ | exact wkMem.rfl' | exact wk_snoc _ _ _ | exact wk_fam (by assumption) _ _ _ | exact wk_famN (by assumption) _ _ _ | (apply wkMem.cons; (case' hl => (repeat (first | exact .here _ _ _ | apply Look.there)))) | apply wkMem.skip)))⟩
            · first
                | (exfalso; omega)
                | (skip
                   rw [putR, if_neg h2] at hP
                   (refine g1_ ?_; repeat ((first | refine n1_ fun b_ => ?_ | refine n2_ fun b_ => ?_ | refine n3_ fun b_ pre_ => ?_ | refine Nat1.mk fun q_ hq_ => ?_ | refine em_ fun x_ hx_ => ?_ | refine Elem1.mk fun e_ he_ => ?_); refine g1_ ?_))
                   have hm := mend_ok W bc pr (row'.set x (Cell.mk r ⟨fo, ba, bi⟩)) post (by rw [List.length_set]; omega)
                   rw [hpre, List.length_set, hrl'] at hm
                   refine ACalls.lend1 hm (by repeat (first | exact .here _ _ _ | apply Look.there)) ?_
                   rintro _ -
                   rw [← hflS (mendL _)]
                   (refine g0_ ?_; repeat ((first | refine n1_ fun b_ => ?_ | refine n2_ fun b_ => ?_ | refine n3_ fun b_ pre_ => ?_ | refine Nat1.mk fun q_ hq_ => ?_ | refine em_ fun x_ hx_ => ?_ | refine Elem1.mk fun e_ he_ => ?_); refine g0_ ?_))
                   refine head_ ?_; (refine g0_ ?_; repeat ((first | refine n1_ fun b_ => ?_ | refine n2_ fun b_ => ?_ | refine n3_ fun b_ pre_ => ?_ | refine Nat1.mk fun q_ hq_ => ?_ | refine em_ fun x_ hx_ => ?_ | refine Elem1.mk fun e_ he_ => ?_); refine g0_ ?_))
                   rw [behind] at hP
                   dsimp only at hP
                   by_cases hE : (x : Int) + widthL r < w
                   · rw [if_pos hE] at hP
                     cases hP
                     (refine g1_ ?_; repeat ((first | refine n1_ fun b_ => ?_ | refine n2_ fun b_ => ?_ | refine n3_ fun b_ pre_ => ?_ | refine Nat1.mk fun q_ hq_ => ?_ | refine em_ fun x_ hx_ => ?_ | refine Elem1.mk fun e_ he_ => ?_); refine g1_ ?_))
                     exact ⟨(bg', pre'), hp', rfl, by (first | exact ⟨_, .refl _⟩ | exact wkMem.rfl' | exact ⟨_, .swap _ _ _⟩ | (repeat (first | exact wkMem.nil _ | exact wkMem.rfl' | exact wk_snoc _ _ _ | exact wk_fam (by assumption) _ _ _ | exact wk_famN (by assumption) _ _ _ | (apply wkMem.cons; (case' hl => (repeat (first | exact .here _ _ _ | apply Look.there)))) | apply wkMem.skip)))⟩
                   · rw [if_neg hE] at hP
                     try simp only [wrapB, hC, not_false_eq_true, decide_true] at hP
                     cases hP
                     (refine g1_ ?_; repeat ((first | refine n1_ fun b_ => ?_ | refine n2_ fun b_ => ?_ | refine n3_ fun b_ pre_ => ?_ | refine Nat1.mk fun q_ hq_ => ?_ | refine em_ fun x_ hx_ => ?_ | refine Elem1.mk fun e_ he_ => ?_); refine g1_ ?_))
                     exact ⟨(bg', pre'), hp', rfl, by (first | exact ⟨_, .refl _⟩ | exact wkMem.rfl' | exact ⟨_, .swap _ _ _⟩ | (repeat (first | exact wkMem.nil _ | exact wkMem.rfl' | exact wk_snoc _ _ _ | exact wk_fam (by assumption) _ _ _ | exact wk_famN (by assumption) _ _ _ | (apply wkMem.cons; (case' hl => (repeat (first | exact .here _ _ _ | apply Look.there)))) | apply wkMem.skip)))⟩
                   )
        · have hl2 := hl.resolve_left hA
          have hA' : lt' = false := by simpa using hA
          have hB2 : (w : Int) < X' + widthL r := hl2.1
          have hC : ¬ bitop .and .i64 modes 4 = 0 := by simpa using hl2.2
          subst hA'
          clear hl hl2
          refine acalls_of_vc (drawOk W) Tryd.func26 rfl (by decide) (by decide) rfl ?_
          (refine g0_ ?_; repeat ((first | refine n1_ fun b_ => ?_ | refine n2_ fun b_ => ?_ | refine n3_ fun b_ pre_ => ?_ | refine Nat1.mk fun q_ hq_ => ?_ | refine em_ fun x_ hx_ => ?_ | refine Elem1.mk fun e_ he_ => ?_); refine g0_ ?_))
          refine (width_ok W r).use ?_; (refine g0_ ?_; repeat ((first | refine n1_ fun b_ => ?_ | refine n2_ fun b_ => ?_ | refine n3_ fun b_ pre_ => ?_ | refine Nat1.mk fun q_ hq_ => ?_ | refine em_ fun x_ hx_ => ?_ | refine Elem1.mk fun e_ he_ => ?_); refine g0_ ?_))
          (refine g1_ ?_; repeat ((first | refine n1_ fun b_ => ?_ | refine n2_ fun b_ => ?_ | refine n3_ fun b_ pre_ => ?_ | refine Nat1.mk fun q_ hq_ => ?_ | refine em_ fun x_ hx_ => ?_ | refine Elem1.mk fun e_ he_ => ?_); refine g1_ ?_))
          refine head_ ?_; (refine g0_ ?_; repeat ((first | refine n1_ fun b_ => ?_ | refine n2_ fun b_ => ?_ | refine n3_ fun b_ pre_ => ?_ | refine Nat1.mk fun q_ hq_ => ?_ | refine em_ fun x_ hx_ => ?_ | refine Elem1.mk fun e_ he_ => ?_); refine g0_ ?_))
          (refine g1_ ?_; repeat ((first | refine n1_ fun b_ => ?_ | refine n2_ fun b_ => ?_ | refine n3_ fun b_ pre_ => ?_ | refine Nat1.mk fun q_ hq_ => ?_ | refine em_ fun x_ hx_ => ?_ | refine Elem1.mk fun e_ he_ => ?_); refine g1_ ?_))
          refine ACalls.lend hfeed' (r := []) (.refl _) ?_
          rintro ⟨bg', pre'⟩ hp'
          dsimp only at hp'
          (refine g0_ ?_; repeat ((first | refine n1_ fun b_ => ?_ | refine n2_ fun b_ => ?_ | refine n3_ fun b_ pre_ => ?_ | refine Nat1.mk fun q_ hq_ => ?_ | refine em_ fun x_ hx_ => ?_ | refine Elem1.mk fun e_ he_ => ?_); refine g0_ ?_))
          refine head_ ?_; (refine g0_ ?_; repeat ((first | refine n1_ fun b_ => ?_ | refine n2_ fun b_ => ?_ | refine n3_ fun b_ pre_ => ?_ | refine Nat1.mk fun q_ hq_ => ?_ | refine em_ fun x_ hx_ => ?_ | refine Elem1.mk fun e_ he_ => ?_); refine g0_ ?_))
          (refine g1_ ?_; repeat ((first | refine n1_ fun b_ => ?_ | refine n2_ fun b_ => ?_ | refine n3_ fun b_ pre_ => ?_ | refine Nat1.mk fun q_ hq_ => ?_ | refine em_ fun x_ hx_ => ?_ | refine Elem1.mk fun e_ he_ => ?_); refine g1_ ?_))
          refine head_ ?_; (refine g0_ ?_; repeat ((first | refine n1_ fun b_ => ?_ | refine n2_ fun b_ => ?_ | refine n3_ fun b_ pre_ => ?_ | refine Nat1.mk fun q_ hq_ => ?_ | refine em_ fun x_ hx_ => ?_ | refine Elem1.mk fun e_ he_ => ?_); refine g0_ ?_))
          refine ⟨_, (rowOwn_ok W bc (h * w) w y h hyw (by omega) (by omega) (by omega)).quiet, ?_⟩; (refine g0_ ?_; repeat ((first | refine n1_ fun b_ => ?_ | refine n2_ fun b_ => ?_ | refine n3_ fun b_ pre_ => ?_ | refine Nat1.mk fun q_ hq_ => ?_ | refine em_ fun x_ hx_ => ?_ | refine Elem1.mk fun e_ he_ => ?_); refine g0_ ?_))
          by_cases hi : bitop .and .i64 modes 1 = 0
          · rw [if_pos hi] at hrow'
            have hrow2 := hrow'.symm
            subst hrow2
            have hrl' := hrl
            (refine g1_ ?_; repeat ((first | refine n1_ fun b_ => ?_ | refine n2_ fun b_ => ?_ | refine n3_ fun b_ pre_ => ?_ | refine Nat1.mk fun q_ hq_ => ?_ | refine em_ fun x_ hx_ => ?_ | refine Elem1.mk fun e_ he_ => ?_); refine g1_ ?_))
            refine head_ ?_; (refine g0_ ?_; repeat ((first | refine n1_ fun b_ => ?_ | refine n2_ fun b_ => ?_ | refine n3_ fun b_ pre_ => ?_ | refine Nat1.mk fun q_ hq_ => ?_ | refine em_ fun x_ hx_ => ?_ | refine Elem1.mk fun e_ he_ => ?_); refine g0_ ?_))
            rw [show (PV.agg [PV.int .i32 r, PV.int .i64 fo, PV.int .i64 ba, PV.int .i64 bi]) = .agg [.int .i32 (Cell.mk r ⟨fo, ba, bi⟩).r, .int .i64 (Cell.mk r ⟨fo, ba, bi⟩).s.fore, .int .i64 (Cell.mk r ⟨fo, ba, bi⟩).s.back, .int .i64 (Cell.mk r ⟨fo, ba, bi⟩).s.bits] from rfl, set_mid (by omega) (Cell.mk r ⟨fo, ba, bi⟩) hpre.symm]
            by_cases h2 : widthL r = 2
            · rw [putR, if_pos h2] at hP
              (refine g1_ ?_; repeat ((first | refine n1_ fun b_ => ?_ | refine n2_ fun b_ => ?_ | refine n3_ fun b_ pre_ => ?_ | refine Nat1.mk fun q_ hq_ => ?_ | refine em_ fun x_ hx_ => ?_ | refine Elem1.mk fun e_ he_ => ?_); refine g1_ ?_))
              refine head_ ?_; (refine g0_ ?_; repeat ((first | refine n1_ fun b_ => ?_ | refine n2_ fun b_ => ?_ | refine n3_ fun b_ pre_ => ?_ | refine Nat1.mk fun q_ hq_ => ?_ | refine em_ fun x_ hx_ => ?_ | refine Elem1.mk fun e_ he_ => ?_); refine g0_ ?_))
              rw [show (PV.agg [ofV1 (Value.int IntKind.i32 0), .int .i64 fo, .int .i64 ba, .int .i64 bi]) = .agg [.int .i32 (Cell.mk 0 ⟨fo, ba, bi⟩).r, .int .i64 (Cell.mk 0 ⟨fo, ba, bi⟩).s.fore, .int .i64 (Cell.mk 0 ⟨fo, ba, bi⟩).s.back, .int .i64 (Cell.mk 0 ⟨fo, ba, bi⟩).s.bits] from rfl, set_mid (x := x + 1) (by rw [List.length_set]; omega) (Cell.mk 0 ⟨fo, ba, bi⟩) hpre.symm]
              have hm := mend_ok W bc pr ((row'.set x (Cell.mk r ⟨fo, ba, bi⟩)).set (x + 1) (Cell.mk 0 ⟨fo, ba, bi⟩)) post (by rw [List.length_set, List.length_set]; omega)
              rw [hpre, List.length_set, List.length_set, hrl'] at hm
              refine ACalls.lend1 hm (by repeat (first | exact .here _ _ _ | apply Look.there)) ?_
              rintro _ -
              rw [← hflS (mendL _)]
              (refine g0_ ?_; repeat ((first | refine n1_ fun b_ => ?_ | refine n2_ fun b_ => ?_ | refine n3_ fun b_ pre_ => ?_ | refine Nat1.mk fun q_ hq_ => ?_ | refine em_ fun x_ hx_ => ?_ | refine Elem1.mk fun e_ he_ => ?_); refine g0_ ?_))
              refine head_ ?_; (refine g0_ ?_; repeat ((first | refine n1_ fun b_ => ?_ | refine n2_ fun b_ => ?_ | refine n3_ fun b_ pre_ => ?_ | refine Nat1.mk fun q_ hq_ => ?_ | refine em_ fun x_ hx_ => ?_ | refine Elem1.mk fun e_ he_ => ?_); refine g0_ ?_))
              rw [behind] at hP
              dsimp only at hP
              by_cases hE : (x : Int) + widthL r < w
              · rw [if_pos hE] at hP
                cases hP
                (refine g1_ ?_; repeat ((first | refine n1_ fun b_ => ?_ | refine n2_ fun b_ => ?_ | refine n3_ fun b_ pre_ => ?_ | refine Nat1.mk fun q_ hq_ => ?_ | refine em_ fun x_ hx_ => ?_ | refine Elem1.mk fun e_ he_ => ?_); refine g1_ ?_))
                exact ⟨(bg', pre'), hp', rfl, by (first | exact ⟨_, .refl _⟩ | exact wkMem.rfl' | exact ⟨_, .swap _ _ _⟩ | (repeat (first | exact wkMem.nil _ | exact wkMem.rfl' | exact wk_snoc _ _ _ | exact wk_fam (by assumption) _ _ _ | exact wk_famN (by assumption) _ _ _ | (apply wkMem.cons; (case' hl => (repeat (first | exact .here _ _ _ | apply Look.there)))) | apply wkMem.skip)))⟩
              · rw [if_neg hE] at hP
                try simp only [wrapB, hC, not_false_eq_true, decide_true] at hP
                cases hP
                (refine g1_ ?_; repeat ((first | refine n1_ fun b_ => ?_ | refine n2_ fun b_ => ?_ | refine n3_ fun b_ pre_ => ?_ | refine Nat1.mk fun q_ hq_ => ?_ | refine em_ fun x_ hx_ => ?_ | refine Elem1.mk fun e_ he_ => ?_); refine g1_ ?_))
                exact ⟨(bg', pre'), hp', rfl, by (first | exact ⟨_, .refl _⟩ | exact wkMem.rfl' | exact ⟨_, .swap _ _ _⟩ | (repeat (first | exact wkMem.nil _ | exact wkMem.rfl' | exact wk_snoc _ _ _ | exact wk_fam (by assumption) _ _ _ | exact wk_famN (by assumption) _ _ _ | (apply wkMem.cons; (case' hl => (repeat (first | exact .here _ _ _ | apply Look.there)))) | apply wkMem.skip)))⟩
            · first
                | (exfalso; omega)
                | (skip
                   rw [putR, if_neg h2] at hP
                   (refine g1_ ?_; repeat ((first | refine n1_ fun b_ => ?_ | refine n2_ fun b_ => ?_ | refine n3_ fun b_ pre_ => ?_ | refine Nat1.mk fun q_ hq_ => ?_ | refine em_ fun x_ hx_ => ?_ | refine Elem1.mk fun e_ he_ => ?_); refine g1_ ?_))
                   have hm := mend_ok W bc pr (row'.set x (Cell.mk r ⟨fo, ba, bi⟩)) post (by rw [List.length_set]; omega)
                   rw [hpre, List.length_set, hrl'] at hm
                   refine ACalls.lend1 hm (by repeat (first | exact .here _ _ _ | apply Look.there)) ?_
                   rintro _ -
                   rw [← hflS (mendL _)]
                   (refine g0_ ?_; repeat ((first | refine n1_ fun b_ => ?_ | refine n2_ fun b_ => ?_ | refine n3_ fun b_ pre_ => ?_ | refine Nat1.mk fun q_ hq_ => ?_ | refine em_ fun x_ hx_ => ?_ | refine Elem1.mk fun e_ he_ => ?_); refine g0_ ?_))
                   refine head_ ?_; (refine g0_ ?_; repeat ((first | refine n1_ fun b_ => ?_ | refine n2_ fun b_ => ?_ | refine n3_ fun b_ pre_ => ?_ | refine Nat1.mk fun q_ hq_ => ?_ | refine em_ fun x_ hx_ => ?_ | refine Elem1.mk fun e_ he_ => ?_); refine g0_ ?_))
                   rw [behind] at hP
                   dsimp only at hP
                   by_cases hE : (x : Int) + widthL r < w
                   · rw [if_pos hE] at hP
                     cases hP
                     (refine g1_ ?_; repeat ((first | refine n1_ fun b_ => ?_ | refine n2_ fun b_ => ?_ | refine n3_ fun b_ pre_ => ?_ | refine Nat1.mk fun q_ hq_ => ?_ | refine em_ fun x_ hx_ => ?_ | refine Elem1.mk fun e_ he_ => ?_); refine g1_ ?_))
                     exact ⟨(bg', pre'), hp', rfl, by (first | exact ⟨_, .refl _⟩ | exact wkMem.rfl' | exact ⟨_, .swap _ _ _⟩ | (repeat (first | exact wkMem.nil _ | exact wkMem.rfl' | exact wk_snoc _ _ _ | exact wk_fam (by assumption) _ _ _ | exact wk_famN (by assumption) _ _ _ | (apply wkMem.cons; (case' hl => (repeat (first | exact .here _ _ _ | apply Look.there)))) | apply wkMem.skip)))⟩
                   · rw [if_neg hE] at hP
                     try simp only [wrapB, hC, not_false_eq_true, decide_true] at hP
                     cases hP
                     (refine g1_ ?_; repeat ((first | refine n1_ fun b_ => ?_ | refine n2_ fun b_ => ?_ | refine n3_ fun b_ pre_ => ?_ | refine Nat1.mk fun q_ hq_ => ?_ | refine em_ fun x_ hx_ => ?_ | refine Elem1.mk fun e_ he_ => ?_); refine g1_ ?_))
                     exact ⟨(bg', pre'), hp', rfl, by (first | exact ⟨_, .refl _⟩ | exact wkMem.rfl' | exact ⟨_, .swap _ _ _⟩ | (repeat (first | exact wkMem.nil _ | exact wkMem.rfl' | exact wk_snoc _ _ _ | exact wk_fam (by assumption) _ _ _ | exact wk_famN (by assumption) _ _ _ | (apply wkMem.cons; (case' hl => (repeat (first | exact .here _ _ _ | apply Look.there)))) | apply wkMem.skip)))⟩
                   )
          · rw [if_neg hi] at hrow'
            have hrl' : row'.length = w := by rw [← hrow', insR_len (by omega), hrl]
            (refine g1_ ?_; repeat ((first | refine n1_ fun b_ => ?_ | refine n2_ fun b_ => ?_ | refine n3_ fun b_ pre_ => ?_ | refine Nat1.mk fun q_ hq_ => ?_ | refine em_ fun x_ hx_ => ?_ | refine Elem1.mk fun e_ he_ => ?_); refine g1_ ?_))
            refine head_ ?_; (refine g0_ ?_; repeat ((first | refine n1_ fun b_ => ?_ | refine n2_ fun b_ => ?_ | refine n3_ fun b_ pre_ => ?_ | refine Nat1.mk fun q_ hq_ => ?_ | refine em_ fun x_ hx_ => ?_ | refine Elem1.mk fun e_ he_ => ?_); refine g0_ ?_))
            refine ⟨_, cloneQ_cells W bc (y * w + x) (w - x) (pr ++ row ++ post) (by omega) (by rw [hfl]; omega) (by omega) (by repeat (first | exact .here _ _ _ | apply Look.there)), ?_⟩
            (refine g0_ ?_; repeat ((first | refine n1_ fun b_ => ?_ | refine n2_ fun b_ => ?_ | refine n3_ fun b_ pre_ => ?_ | refine Nat1.mk fun q_ hq_ => ?_ | refine em_ fun x_ hx_ => ?_ | refine Elem1.mk fun e_ he_ => ?_); refine g0_ ?_))
            refine need.mk ⟨by rw [List.length_map, hfl]; omega, cells_all _, Nat.zero_le _⟩ ?_
            rw [ins_copy (a := y * w) (w := w) hpre.symm hrl (by omega) rfl rfl, hrow']
            (refine g0_ ?_; repeat ((first | refine n1_ fun b_ => ?_ | refine n2_ fun b_ => ?_ | refine n3_ fun b_ pre_ => ?_ | refine Nat1.mk fun q_ hq_ => ?_ | refine em_ fun x_ hx_ => ?_ | refine Elem1.mk fun e_ he_ => ?_); refine g0_ ?_))
            refine head_ ?_; (refine g0_ ?_; repeat ((first | refine n1_ fun b_ => ?_ | refine n2_ fun b_ => ?_ | refine n3_ fun b_ pre_ => ?_ | refine Nat1.mk fun q_ hq_ => ?_ | refine em_ fun x_ hx_ => ?_ | refine Elem1.mk fun e_ he_ => ?_); refine g0_ ?_))
            rw [show (PV.agg [PV.int .i32 r, PV.int .i64 fo, PV.int .i64 ba, PV.int .i64 bi]) = .agg [.int .i32 (Cell.mk r ⟨fo, ba, bi⟩).r, .int .i64 (Cell.mk r ⟨fo, ba, bi⟩).s.fore, .int .i64 (Cell.mk r ⟨fo, ba, bi⟩).s.back, .int .i64 (Cell.mk r ⟨fo, ba, bi⟩).s.bits] from rfl, set_mid (by omega) (Cell.mk r ⟨fo, ba, bi⟩) hpre.symm]
            by_cases h2 : widthL r = 2
            · rw [putR, if_pos h2] at hP
              (refine g1_ ?_; repeat ((first | refine n1_ fun b_ => ?_ | refine n2_ fun b_ => ?_ | refine n3_ fun b_ pre_ => ?_ | refine Nat1.mk fun q_ hq_ => ?_ | refine em_ fun x_ hx_ => ?_ | refine Elem1.mk fun e_ he_ => ?_); refine g1_ ?_))
              refine head_ ?_; (refine g0_ ?_; repeat ((first | refine n1_ fun b_ => ?_ | refine n2_ fun b_ => ?_ | refine n3_ fun b_ pre_ => ?_ | refine Nat1.mk fun q_ hq_ => ?_ | refine em_ fun x_ hx_ => ?_ | refine Elem1.mk fun e_ he_ => ?_); refine g0_ ?_))
              rw [show (PV.agg [ofV1 (Value.int IntKind.i32 0), .int .i64 fo, .int .i64 ba, .int .i64 bi]) = .agg [.int .i32 (Cell.mk 0 ⟨fo, ba, bi⟩).r, .int .i64 (Cell.mk 0 ⟨fo, ba, bi⟩).s.fore, .int .i64 (Cell.mk 0 ⟨fo, ba, bi⟩).s.back, .int .i64 (Cell.mk 0 ⟨fo, ba, bi⟩).s.bits] from rfl, set_mid (x := x + 1) (by rw [List.length_set]; omega) (Cell.mk 0 ⟨fo, ba, bi⟩) hpre.symm]
              have hm := mend_ok W bc pr ((row'.set x (Cell.mk r ⟨fo, ba, bi⟩)).set (x + 1) (Cell.mk 0 ⟨fo, ba, bi⟩)) post (by rw [List.length_set, List.length_set]; omega)
              rw [hpre, List.length_set, List.length_set, hrl'] at hm
              refine ACalls.lend1 hm (by repeat (first | exact .here _ _ _ | apply Look.there)) ?_
              rintro _ -
              rw [← hflS (mendL _)]
              (refine g0_ ?_; repeat ((first | refine n1_ fun b_ => ?_ | refine n2_ fun b_ => ?_ | refine n3_ fun b_ pre_ => ?_ | refine Nat1.mk fun q_ hq_ => ?_ | refine em_ fun x_ hx_ => ?_ | refine Elem1.mk fun e_ he_ => ?_); refine g0_ ?_))
              refine head_ ?_; (refine g0_ ?_; repeat ((first | refine n1_ fun b_ => ?_ | refine n2_ fun b_ => ?_ | refine n3_ fun b_ pre_ => ?_ | refine Nat1.mk fun q_ hq_ => ?_ | refine em_ fun x_ hx_ => ?_ | refine Elem1.mk fun e_ he_ => ?_); refine g0_ ?_))
              rw [behind] at hP
              dsimp only at hP
              by_cases hE : (x : Int) + widthL r < w
              · rw [if_pos hE] at hP
                cases hP
                (refine g1_ ?_; repeat ((first | refine n1_ fun b_ => ?_ | refine n2_ fun b_ => ?_ | refine n3_ fun b_ pre_ => ?_ | refine Nat1.mk fun q_ hq_ => ?_ | refine em_ fun x_ hx_ => ?_ | refine Elem1.mk fun e_ he_ => ?_); refine g1_ ?_))
                exact ⟨(bg', pre'), hp', rfl, by (first | exact ⟨_, .refl _⟩ | exact wkMem.rfl' | exact ⟨_, .swap _ _ _⟩ | (repeat (first | exact wkMem.nil _ | exact wkMem.rfl' | exact wk_snoc _ _ _ | exact wk_fam (by assumption) _ _ _ | exact wk_famN (by assumption) _ _ _ | (apply wkMem.cons; (case' hl => (repeat (first | exact .here _ _ _ | apply Look.there)))) | apply wkMem.skip)))⟩
              · rw [if_neg hE] at hP
                try simp only [wrapB, hC, not_false_eq_true, decide_true] at hP
                cases hP
                (refine g1_ ?_; repeat ((first | refine n1_ fun b_ => ?_ | refine n2_ fun b_ => ?_ | refine n3_ fun b_ pre_ => ?_ | refine Nat1.mk fun q_ hq_ => ?_ | refine em_ fun x_ hx_ => ?_ | refine Elem1.mk fun e_ he_ => ?_); refine g1_ ?_))
                exact ⟨(bg', pre'), hp', rfl, by (first | exact ⟨_, .refl _⟩ | exact wkMem.rfl' | exact ⟨_, .swap _ _ _⟩ | (repeat (first | exact wkMem.nil _ | exact wkMem.rfl' | exact wk_snoc _ _ _ | exact wk_fam (by assumption) _ _ _ | exact wk_famN (by assumption) _ _ _ | (apply wkMem.cons; (case' hl => (repeat (first | exact .here _ _ _ | apply Look.there)))) | apply wkMem.skip)))⟩
            · first
                | (exfalso; omega)
                | (skip
                   rw [putR, if_neg h2] at hP
                   (refine g1_ ?_; repeat ((first | refine n1_ fun b_ => ?_ | refine n2_ fun b_ => ?_ | refine n3_ fun b_ pre_ => ?_ | refine Nat1.mk fun q_ hq_ => ?_ | refine em_ fun x_ hx_ => ?_ | refine Elem1.mk fun e_ he_ => ?_); refine g1_ ?_))
                   have hm := mend_ok W bc pr (row'.set x (Cell.mk r ⟨fo, ba, bi⟩)) post (by rw [List.length_set]; omega)
                   rw [hpre, List.length_set, hrl'] at hm
                   refine ACalls.lend1 hm (by repeat (first | exact .here _ _ _ | apply Look.there)) ?_
                   rintro _ -
                   rw [← hflS (mendL _)]
                   (refine g0_ ?_; repeat ((first | refine n1_ fun b_ => ?_ | refine n2_ fun b_ => ?_ | refine n3_ fun b_ pre_ => ?_ | refine Nat1.mk fun q_ hq_ => ?_ | refine em_ fun x_ hx_ => ?_ | refine Elem1.mk fun e_ he_ => ?_); refine g0_ ?_))
                   refine head_ ?_; (refine g0_ ?_; repeat ((first | refine n1_ fun b_ => ?_ | refine n2_ fun b_ => ?_ | refine n3_ fun b_ pre_ => ?_ | refine Nat1.mk fun q_ hq_ => ?_ | refine em_ fun x_ hx_ => ?_ | refine Elem1.mk fun e_ he_ => ?_); refine g0_ ?_))
                   rw [behind] at hP
                   dsimp only at hP
                   by_cases hE : (x : Int) + widthL r < w
                   · rw [if_pos hE] at hP
                     cases hP
                     (refine g1_ ?_; repeat ((first | refine n1_ fun b_ => ?_ | refine n2_ fun b_ => ?_ | refine n3_ fun b_ pre_ => ?_ | refine Nat1.mk fun q_ hq_ => ?_ | refine em_ fun x_ hx_ => ?_ | refine Elem1.mk fun e_ he_ => ?_); refine g1_ ?_))
                     exact ⟨(bg', pre'), hp', rfl, by (first | exact ⟨_, .refl _⟩ | exact wkMem.rfl' | exact ⟨_, .swap _ _ _⟩ | (repeat (first | exact wkMem.nil _ | exact wkMem.rfl' | exact wk_snoc _ _ _ | exact wk_fam (by assumption) _ _ _ | exact wk_famN (by assumption) _ _ _ | (apply wkMem.cons; (case' hl => (repeat (first | exact .here _ _ _ | apply Look.there)))) | apply wkMem.skip)))⟩
                   · rw [if_neg hE] at hP
                     try simp only [wrapB, hC, not_false_eq_true, decide_true] at hP
                     cases hP
                     (refine g1_ ?_; repeat ((first | refine n1_ fun b_ => ?_ | refine n2_ fun b_ => ?_ | refine n3_ fun b_ pre_ => ?_ | refine Nat1.mk fun q_ hq_ => ?_ | refine em_ fun x_ hx_ => ?_ | refine Elem1.mk fun e_ he_ => ?_); refine g1_ ?_))
                     exact ⟨(bg', pre'), hp', rfl, by (first | exact ⟨_, .refl _⟩ | exact wkMem.rfl' | exact ⟨_, .swap _ _ _⟩ | (repeat (first | exact wkMem.nil _ | exact wkMem.rfl' | exact wk_snoc _ _ _ | exact wk_fam (by assumption) _ _ _ | exact wk_famN (by assumption) _ _ _ | (apply wkMem.cons; (case' hl => (repeat (first | exact .here _ _ _ | apply Look.there)))) | apply wkMem.skip)))⟩
                   )
    · rw [beforeW] at hP
      dsimp only at hP
      rw [if_neg hl] at hP
      have hlt : s.late = false := by
        cases hq : s.late with
        | false => rfl
        | true => exact absurd (Or.inl hq) hl
      have hnw : ¬(s.g.w < s.x + widthL r ∧ ¬bitop .and .i64 s.modes 4 = 0) := fun hq => hl (.inr ⟨hq.1, by simpa [wrapB] using hq.2⟩)
      have ewt := ew
      have eht := eh
      have hxt := hxy
      have fM : RowsOk L w h := hk.rows.ok
      clear hk htb hxy hl ew eh
      rw [afterW] at hP
      dsimp only at hP
      obtain ⟨⟨gw, gh, cs⟩, X, Y, lt, ⟨fo, ba, bi⟩, tp, bo, modes, tabs, kx, ky, ⟨f2, b2, bi2⟩, km, last, title, gone⟩ := s
      dsimp only at ewt eht hlt hxt hP
      (try dsimp only at hx0)
      subst ewt eht hlt
      obtain ⟨x, rfl⟩ := Int.eq_ofNat_of_zero_le hxt.1
      obtain ⟨y, rfl⟩ := Int.eq_ofNat_of_zero_le hxt.2.2.1
      have hyw : (y + 1) * w ≤ h * w := Nat.mul_le_mul_right _ (by omega)
      have hyw2 : y * w + w ≤ h * w := by rw [← Nat.succ_mul]; exact hyw
      obtain ⟨row, hrow, hrl⟩ := fM.at (y := y) (by omega)
      have hpre := take_flat_len fM.row (y := y) (by rw [fM.len]; omega)
      have hflS : ∀ R, (L.set y R).flatten = (L.take y).flatten ++ R ++ (L.drop (y + 1)).flatten := fun R => flat_set hrow R
      have hflL := flat_at hrow
      rw [Int.toNat_natCast, Int.toNat_natCast, List.getD_eq_getElem?_getD, hrow, Option.getD_some, putI] at hP
      rw [ins_row] at hP
      dsimp only at hP
      generalize hrow' : (if bitop .and .i64 modes 1 = 0 then row else insR x (widthL r) row) = row' at hP
      have hfl := fM.flat
      rw [hflL] at hfl
      generalize (L.take y).flatten = pr at *
      generalize (L.drop (y + 1)).flatten = post at *
      dsimp only at hnw
      have hM0 : wkM b bc (h * w) tv bg pre (⟨⟨w, h, cs⟩, x, y, false, ⟨fo, ba, bi⟩, tp, bo, modes, tabs, kx, ky, ⟨f2, b2, bi2⟩, km, last, title, gone⟩, L, G) = [⟨b, .row 22 [.agg [.int .i64 w, .int .i64 h, .rsl bc 4 0 (h * w), .int .i64 x, .int .i64 y, .bool false, .int .i64 fo, .int .i64 ba, .int .i64 bi, .int .i64 tp, .int .i64 bo, .int .i64 modes, tv, .int .i64 kx, .int .i64 ky, .int .i64 f2, .int .i64 b2, .int .i64 bi2, .int .i64 km, .int .i32 last, .str title, .rsl bg 1 pre.length G.length]] 0⟩, ⟨bc, .row 4 ((pr ++ row ++ post).map encCell) 0⟩, gonB bg pre G] := by
        rw [← hflL]
        rfl
      obtain ⟨bg', hbg⟩ : ∃ b', b' = bg := ⟨_, rfl⟩
      obtain ⟨pre', hpre'⟩ : ∃ p', p' = pre := ⟨_, rfl⟩
      have hp' : pre' = [] ∨ G ≠ [] := hpre' ▸ hp
      by_cases hB : (w : Int) < x + widthL r
      · rw [if_pos hB] at hP
        cases hP
        have hC : bitop .and .i64 modes 4 = 0 := Decidable.not_not.1 fun hq => hnw ⟨hB, hq⟩
        rw [← hflL] at hM0
        rw [hM0]
        clear hM0
        subst hbg hpre'
        refine acalls_of_vc (drawOk W) Tryd.func26 rfl (by decide) (by decide) rfl ?_
        (refine g0_ ?_; repeat ((first | refine n1_ fun b_ => ?_ | refine n2_ fun b_ => ?_ | refine n3_ fun b_ pre_ => ?_ | refine Nat1.mk fun q_ hq_ => ?_ | refine em_ fun x_ hx_ => ?_ | refine Elem1.mk fun e_ he_ => ?_); refine g0_ ?_))
        refine (width_ok W r).use ?_; (refine g0_ ?_; repeat ((first | refine n1_ fun b_ => ?_ | refine n2_ fun b_ => ?_ | refine n3_ fun b_ pre_ => ?_ | refine Nat1.mk fun q_ hq_ => ?_ | refine em_ fun x_ hx_ => ?_ | refine Elem1.mk fun e_ he_ => ?_); refine g0_ ?_))
        (refine g1_ ?_; repeat ((first | refine n1_ fun b_ => ?_ | refine n2_ fun b_ => ?_ | refine n3_ fun b_ pre_ => ?_ | refine Nat1.mk fun q_ hq_ => ?_ | refine em_ fun x_ hx_ => ?_ | refine Elem1.mk fun e_ he_ => ?_); refine g1_ ?_))
        refine head_ ?_; (refine g0_ ?_; repeat ((first | refine n1_ fun b_ => ?_ | refine n2_ fun b_ => ?_ | refine n3_ fun b_ pre_ => ?_ | refine Nat1.mk fun q_ hq_ => ?_ | refine em_ fun x_ hx_ => ?_ | refine Elem1.mk fun e_ he_ => ?_); refine g0_ ?_))
        (refine g1_ ?_; repeat ((first | refine n1_ fun b_ => ?_ | refine n2_ fun b_ => ?_ | refine n3_ fun b_ pre_ => ?_ | refine Nat1.mk fun q_ hq_ => ?_ | refine em_ fun x_ hx_ => ?_ | refine Elem1.mk fun e_ he_ => ?_); refine g1_ ?_))
        refine head_ ?_; (refine g0_ ?_; repeat ((first | refine n1_ fun b_ => ?_ | refine n2_ fun b_ => ?_ | refine n3_ fun b_ pre_ => ?_ | refine Nat1.mk fun q_ hq_ => ?_ | refine em_ fun x_ hx_ => ?_ | refine Elem1.mk fun e_ he_ => ?_); refine g0_ ?_))
        (refine g1_ ?_; repeat ((first | refine n1_ fun b_ => ?_ | refine n2_ fun b_ => ?_ | refine n3_ fun b_ pre_ => ?_ | refine Nat1.mk fun q_ hq_ => ?_ | refine em_ fun x_ hx_ => ?_ | refine Elem1.mk fun e_ he_ => ?_); refine g1_ ?_))
        exact ⟨(bg', pre'), hp', rfl, by (first | exact ⟨_, .refl _⟩ | exact wkMem.rfl' | exact ⟨_, .swap _ _ _⟩ | (repeat (first | exact wkMem.nil _ | exact wkMem.rfl' | exact wk_snoc _ _ _ | exact wk_fam (by assumption) _ _ _ | exact wk_famN (by assumption) _ _ _ | (apply wkMem.cons; (case' hl => (repeat (first | exact .here _ _ _ | apply Look.there)))) | apply wkMem.skip)))⟩
      · rw [if_neg hB] at hP
        rw [hM0]
        clear hM0
        subst hbg hpre'
        refine acalls_of_vc (drawOk W) Tryd.func26 rfl (by decide) (by decide) rfl ?_
        (refine g0_ ?_; repeat ((first | refine n1_ fun b_ => ?_ | refine n2_ fun b_ => ?_ | refine n3_ fun b_ pre_ => ?_ | refine Nat1.mk fun q_ hq_ => ?_ | refine em_ fun x_ hx_ => ?_ | refine Elem1.mk fun e_ he_ => ?_); refine g0_ ?_))
        refine (width_ok W r).use ?_; (refine g0_ ?_; repeat ((first | refine n1_ fun b_ => ?_ | refine n2_ fun b_ => ?_ | refine n3_ fun b_ pre_ => ?_ | refine Nat1.mk fun q_ hq_ => ?_ | refine em_ fun x_ hx_ => ?_ | refine Elem1.mk fun e_ he_ => ?_); refine g0_ ?_))
        (refine g1_ ?_; repeat ((first | refine n1_ fun b_ => ?_ | refine n2_ fun b_ => ?_ | refine n3_ fun b_ pre_ => ?_ | refine Nat1.mk fun q_ hq_ => ?_ | refine em_ fun x_ hx_ => ?_ | refine Elem1.mk fun e_ he_ => ?_); refine g1_ ?_))
        refine head_ ?_; (refine g0_ ?_; repeat ((first | refine n1_ fun b_ => ?_ | refine n2_ fun b_ => ?_ | refine n3_ fun b_ pre_ => ?_ | refine Nat1.mk fun q_ hq_ => ?_ | refine em_ fun x_ hx_ => ?_ | refine Elem1.mk fun e_ he_ => ?_); refine g0_ ?_))
        (refine g1_ ?_; repeat ((first | refine n1_ fun b_ => ?_ | refine n2_ fun b_ => ?_ | refine n3_ fun b_ pre_ => ?_ | refine Nat1.mk fun q_ hq_ => ?_ | refine em_ fun x_ hx_ => ?_ | refine Elem1.mk fun e_ he_ => ?_); refine g1_ ?_))
        refine head_ ?_; (refine g0_ ?_; repeat ((first | refine n1_ fun b_ => ?_ | refine n2_ fun b_ => ?_ | refine n3_ fun b_ pre_ => ?_ | refine Nat1.mk fun q_ hq_ => ?_ | refine em_ fun x_ hx_ => ?_ | refine Elem1.mk fun e_ he_ => ?_); refine g0_ ?_))
        (refine g1_ ?_; repeat ((first | refine n1_ fun b_ => ?_ | refine n2_ fun b_ => ?_ | refine n3_ fun b_ pre_ => ?_ | refine Nat1.mk fun q_ hq_ => ?_ | refine em_ fun x_ hx_ => ?_ | refine Elem1.mk fun e_ he_ => ?_); refine g1_ ?_))
        refine head_ ?_; (refine g0_ ?_; repeat ((first | refine n1_ fun b_ => ?_ | refine n2_ fun b_ => ?_ | refine n3_ fun b_ pre_ => ?_ | refine Nat1.mk fun q_ hq_ => ?_ | refine em_ fun x_ hx_ => ?_ | refine Elem1.mk fun e_ he_ => ?_); refine g0_ ?_))
        refine ⟨_, (rowOwn_ok W bc (h * w) w y h hyw (by omega) (by omega) (by omega)).quiet, ?_⟩; (refine g0_ ?_; repeat ((first | refine n1_ fun b_ => ?_ | refine n2_ fun b_ => ?_ | refine n3_ fun b_ pre_ => ?_ | refine Nat1.mk fun q_ hq_ => ?_ | refine em_ fun x_ hx_ => ?_ | refine Elem1.mk fun e_ he_ => ?_); refine g0_ ?_))
        by_cases hi : bitop .and .i64 modes 1 = 0
        · rw [if_pos hi] at hrow'
          have hrow2 := hrow'.symm
          subst hrow2
          have hrl' := hrl
          (refine g1_ ?_; repeat ((first | refine n1_ fun b_ => ?_ | refine n2_ fun b_ => ?_ | refine n3_ fun b_ pre_ => ?_ | refine Nat1.mk fun q_ hq_ => ?_ | refine em_ fun x_ hx_ => ?_ | refine Elem1.mk fun e_ he_ => ?_); refine g1_ ?_))
          refine head_ ?_; (refine g0_ ?_; repeat ((first | refine n1_ fun b_ => ?_ | refine n2_ fun b_ => ?_ | refine n3_ fun b_ pre_ => ?_ | refine Nat1.mk fun q_ hq_ => ?_ | refine em_ fun x_ hx_ => ?_ | refine Elem1.mk fun e_ he_ => ?_); refine g0_ ?_))
          rw [show (PV.agg [PV.int .i32 r, PV.int .i64 fo, PV.int .i64 ba, PV.int .i64 bi]) = .agg [.int .i32 (Cell.mk r ⟨fo, ba, bi⟩).r, .int .i64 (Cell.mk r ⟨fo, ba, bi⟩).s.fore, .int .i64 (Cell.mk r ⟨fo, ba, bi⟩).s.back, .int .i64 (Cell.mk r ⟨fo, ba, bi⟩).s.bits] from rfl, set_mid (by omega) (Cell.mk r ⟨fo, ba, bi⟩) hpre.symm]
          by_cases h2 : widthL r = 2
          · rw [putR, if_pos h2] at hP
            (refine g1_ ?_; repeat ((first | refine n1_ fun b_ => ?_ | refine n2_ fun b_ => ?_ | refine n3_ fun b_ pre_ => ?_ | refine Nat1.mk fun q_ hq_ => ?_ | refine em_ fun x_ hx_ => ?_ | refine Elem1.mk fun e_ he_ => ?_); refine g1_ ?_))
            refine head_ ?_; (refine g0_ ?_; repeat ((first | refine n1_ fun b_ => ?_ | refine n2_ fun b_ => ?_ | refine n3_ fun b_ pre_ => ?_ | refine Nat1.mk fun q_ hq_ => ?_ | refine em_ fun x_ hx_ => ?_ | refine Elem1.mk fun e_ he_ => ?_); refine g0_ ?_))
            rw [show (PV.agg [ofV1 (Value.int IntKind.i32 0), .int .i64 fo, .int .i64 ba, .int .i64 bi]) = .agg [.int .i32 (Cell.mk 0 ⟨fo, ba, bi⟩).r, .int .i64 (Cell.mk 0 ⟨fo, ba, bi⟩).s.fore, .int .i64 (Cell.mk 0 ⟨fo, ba, bi⟩).s.back, .int .i64 (Cell.mk 0 ⟨fo, ba, bi⟩).s.bits] from rfl, set_mid (x := x + 1) (by rw [List.length_set]; omega) (Cell.mk 0 ⟨fo, ba, bi⟩) hpre.symm]
            have hm := mend_ok W bc pr ((row'.set x (Cell.mk r ⟨fo, ba, bi⟩)).set (x + 1) (Cell.mk 0 ⟨fo, ba, bi⟩)) post (by rw [List.length_set, List.length_set]; omega)
            rw [hpre, List.length_set, List.length_set, hrl'] at hm
            refine ACalls.lend1 hm (by repeat (first | exact .here _ _ _ | apply Look.there)) ?_
            rintro _ -
            rw [← hflS (mendL _)]
            (refine g0_ ?_; repeat ((first | refine n1_ fun b_ => ?_ | refine n2_ fun b_ => ?_ | refine n3_ fun b_ pre_ => ?_ | refine Nat1.mk fun q_ hq_ => ?_ | refine em_ fun x_ hx_ => ?_ | refine Elem1.mk fun e_ he_ => ?_); refine g0_ ?_))
            refine head_ ?_; (refine g0_ ?_; repeat ((first | refine n1_ fun b_ => ?_ | refine n2_ fun b_ => ?_ | refine n3_ fun b_ pre_ => ?_ | refine Nat1.mk fun q_ hq_ => ?_ | refine em_ fun x_ hx_ => ?_ | refine Elem1.mk fun e_ he_ => ?_); refine g0_ ?_))
            rw [behind] at hP
            dsimp only at hP
            by_cases hE : (x : Int) + widthL r < w
            · rw [if_pos hE] at hP
              cases hP
              (refine g1_ ?_; repeat ((first | refine n1_ fun b_ => ?_ | refine n2_ fun b_ => ?_ | refine n3_ fun b_ pre_ => ?_ | refine Nat1.mk fun q_ hq_ => ?_ | refine em_ fun x_ hx_ => ?_ | refine Elem1.mk fun e_ he_ => ?_); refine g1_ ?_))
              exact ⟨(bg', pre'), hp', rfl, by (first | exact ⟨_, .refl _⟩ | exact wkMem.rfl' | exact ⟨_, .swap _ _ _⟩ | (repeat (first | exact wkMem.nil _ | exact wkMem.rfl' | exact wk_snoc _ _ _ | exact wk_fam (by assumption) _ _ _ | exact wk_famN (by assumption) _ _ _ | (apply wkMem.cons; (case' hl => (repeat (first | exact .here _ _ _ | apply Look.there)))) | apply wkMem.skip)))⟩
            · rw [if_neg hE] at hP
              try simp only [wrapB, hC, not_false_eq_true, decide_true] at hP
              cases hP
              (refine g1_ ?_; repeat ((first | refine n1_ fun b_ => ?_ | refine n2_ fun b_ => ?_ | refine n3_ fun b_ pre_ => ?_ | refine Nat1.mk fun q_ hq_ => ?_ | refine em_ fun x_ hx_ => ?_ | refine Elem1.mk fun e_ he_ => ?_); refine g1_ ?_))
              exact ⟨(bg', pre'), hp', rfl, by (first | exact ⟨_, .refl _⟩ | exact wkMem.rfl' | exact ⟨_, .swap _ _ _⟩ | (repeat (first | exact wkMem.nil _ | exact wkMem.rfl' | exact wk_snoc _ _ _ | exact wk_fam (by assumption) _ _ _ | exact wk_famN (by assumption) _ _ _ | (apply wkMem.cons; (case' hl => (repeat (first | exact .here _ _ _ | apply Look.there)))) | apply wkMem.skip)))⟩
          · first
              | (exfalso; omega)
              | (skip
                 rw [putR, if_neg h2] at hP
                 (refine g1_ ?_; repeat ((first | refine n1_ fun b_ => ?_ | refine n2_ fun b_ => ?_ | refine n3_ fun b_ pre_ => ?_ | refine Nat1.mk fun q_ hq_ => ?_ | refine em_ fun x_ hx_ => ?_ | refine Elem1.mk fun e_ he_ => ?_); refine g1_ ?_))
                 have hm := mend_ok W bc pr (row'.set x (Cell.mk r ⟨fo, ba, bi⟩)) post (by rw [List.length_set]; omega)
                 rw [hpre, List.length_set, hrl'] at hm
                 refine ACalls.lend1 hm (by repeat (first | exact .here _ _ _ | apply Look.there)) ?_
                 rintro _ -
                 rw [← hflS (mendL _)]
                 (refine g0_ ?_; repeat ((first | refine n1_ fun b_ => ?_ | refine n2_ fun b_ => ?_ | refine n3_ fun b_ pre_ => ?_ | refine Nat1.mk fun q_ hq_ => ?_ | refine em_ fun x_ hx_ => ?_ | refine Elem1.mk fun e_ he_ => ?_); refine g0_ ?_))
                 refine head_ ?_; (refine g0_ ?_; repeat ((first | refine n1_ fun b_ => ?_ | refine n2_ fun b_ => ?_ | refine n3_ fun b_ pre_ => ?_ | refine Nat1.mk fun q_ hq_ => ?_ | refine em_ fun x_ hx_ => ?_ | refine Elem1.mk fun e_ he_ => ?_); refine g0_ ?_))
                 rw [behind] at hP
                 dsimp only at hP
                 by_cases hE : (x : Int) + widthL r < w
                 · rw [if_pos hE] at hP
                   cases hP
                   (refine g1_ ?_; repeat ((first | refine n1_ fun b_ => ?_ | refine n2_ fun b_ => ?_ | refine n3_ fun b_ pre_ => ?_ | refine Nat1.mk fun q_ hq_ => ?_ | refine em_ fun x_ hx_ => ?_ | refine Elem1.mk fun e_ he_ => ?_); refine g1_ ?_))
                   exact ⟨(bg', pre'), hp', rfl, by (first | exact ⟨_, .refl _⟩ | exact wkMem.rfl' | exact ⟨_, .swap _ _ _⟩ | (repeat (first | exact wkMem.nil _ | exact wkMem.rfl' | exact wk_snoc _ _ _ | exact wk_fam (by assumption) _ _ _ | exact wk_famN (by assumption) _ _ _ | (apply wkMem.cons; (case' hl => (repeat (first | exact .here _ _ _ | apply Look.there)))) | apply wkMem.skip)))⟩
                 · rw [if_neg hE] at hP
                   try simp only [wrapB, hC, not_false_eq_true, decide_true] at hP
                   cases hP
                   (refine g1_ ?_; repeat ((first | refine n1_ fun b_ => ?_ | refine n2_ fun b_ => ?_ | refine n3_ fun b_ pre_ => ?_ | refine Nat1.mk fun q_ hq_ => ?_ | refine em_ fun x_ hx_ => ?_ | refine Elem1.mk fun e_ he_ => ?_); refine g1_ ?_))
                   exact ⟨(bg', pre'), hp', rfl, by (first | exact ⟨_, .refl _⟩ | exact wkMem.rfl' | exact ⟨_, .swap _ _ _⟩ | (repeat (first | exact wkMem.nil _ | exact wkMem.rfl' | exact wk_snoc _ _ _ | exact wk_fam (by assumption) _ _ _ | exact wk_famN (by assumption) _ _ _ | (apply wkMem.cons; (case' hl => (repeat (first | exact .here _ _ _ | apply Look.there)))) | apply wkMem.skip)))⟩
                 )
        · rw [if_neg hi] at hrow'
          have hrl' : row'.length = w := by rw [← hrow', insR_len (by omega), hrl]
          (refine g1_ ?_; repeat ((first | refine n1_ fun b_ => ?_ | refine n2_ fun b_ => ?_ | refine n3_ fun b_ pre_ => ?_ | refine Nat1.mk fun q_ hq_ => ?_ | refine em_ fun x_ hx_ => ?_ | refine Elem1.mk fun e_ he_ => ?_); refine g1_ ?_))
          refine head_ ?_; (refine g0_ ?_; repeat ((first | refine n1_ fun b_ => ?_ | refine n2_ fun b_ => ?_ | refine n3_ fun b_ pre_ => ?_ | refine Nat1.mk fun q_ hq_ => ?_ | refine em_ fun x_ hx_ => ?_ | refine Elem1.mk fun e_ he_ => ?_); refine g0_ ?_))
          refine ⟨_, cloneQ_cells W bc (y * w + x) (w - x) (pr ++ row ++ post) (by omega) (by rw [hfl]; omega) (by omega) (by repeat (first | exact .here _ _ _ | apply Look.there)), ?_⟩
          (refine g0_ ?_; repeat ((first | refine n1_ fun b_ => ?_ | refine n2_ fun b_ => ?_ | refine n3_ fun b_ pre_ => ?_ | refine Nat1.mk fun q_ hq_ => ?_ | refine em_ fun x_ hx_ => ?_ | refine Elem1.mk fun e_ he_ => ?_); refine g0_ ?_))
          refine need.mk ⟨by rw [List.length_map, hfl]; omega, cells_all _, Nat.zero_le _⟩ ?_
          rw [ins_copy (a := y * w) (w := w) hpre.symm hrl (by omega) rfl rfl, hrow']
          (refine g0_ ?_; repeat ((first | refine n1_ fun b_ => ?_ | refine n2_ fun b_ => ?_ | refine n3_ fun b_ pre_ => ?_ | refine Nat1.mk fun q_ hq_ => ?_ | refine em_ fun x_ hx_ => ?_ | refine Elem1.mk fun e_ he_ => ?_); refine g0_ ?_))
          refine head_ ?_; (refine g0_ ?_; repeat ((first | refine n1_ fun b_ => ?_ | refine n2_ fun b_ => ?_ | refine n3_ fun b_ pre_ => ?_ | refine Nat1.mk fun q_ hq_ => ?_ | refine em_ fun x_ hx_ => ?_ | refine Elem1.mk fun e_ he_ => ?_); refine g0_ ?_))
          rw [show (PV.agg [PV.int .i32 r, PV.int .i64 fo, PV.int .i64 ba, PV.int .i64 bi]) = .agg [.int .i32 (Cell.mk r ⟨fo, ba, bi⟩).r, .int .i64 (Cell.mk r ⟨fo, ba, bi⟩).s.fore, .int .i64 (Cell.mk r ⟨fo, ba, bi⟩).s.back, .int .i64 (Cell.mk r ⟨fo, ba, bi⟩).s.bits] from rfl, set_mid (by omega) (Cell.mk r ⟨fo, ba, bi⟩) hpre.symm]
          by_cases h2 : widthL r = 2
          · rw [putR, if_pos h2] at hP
            (refine g1_ ?_; repeat ((first | refine n1_ fun b_ => ?_ | refine n2_ fun b_ => ?_ | refine n3_ fun b_ pre_ => ?_ | refine Nat1.mk fun q_ hq_ => ?_ | refine em_ fun x_ hx_ => ?_ | refine Elem1.mk fun e_ he_ => ?_); refine g1_ ?_))
            refine head_ ?_; (refine g0_ ?_; repeat ((first | refine n1_ fun b_ => ?_ | refine n2_ fun b_ => ?_ | refine n3_ fun b_ pre_ => ?_ | refine Nat1.mk fun q_ hq_ => ?_ | refine em_ fun x_ hx_ => ?_ | refine Elem1.mk fun e_ he_ => ?_); refine g0_ ?_))
            rw [show (PV.agg [ofV1 (Value.int IntKind.i32 0), .int .i64 fo, .int .i64 ba, .int .i64 bi]) = .agg [.int .i32 (Cell.mk 0 ⟨fo, ba, bi⟩).r, .int .i64 (Cell.mk 0 ⟨fo, ba, bi⟩).s.fore, .int .i64 (Cell.mk 0 ⟨fo, ba, bi⟩).s.back, .int .i64 (Cell.mk 0 ⟨fo, ba, bi⟩).s.bits] from rfl, set_mid (x := x + 1) (by rw [List.length_set]; omega) (Cell.mk 0 ⟨fo, ba, bi⟩) hpre.symm]
            have hm := mend_ok W bc pr ((row'.set x (Cell.mk r ⟨fo, ba, bi⟩)).set (x + 1) (Cell.mk 0 ⟨fo, ba, bi⟩)) post (by rw [List.length_set, List.length_set]; omega)
            rw [hpre, List.length_set, List.length_set, hrl'] at hm
            refine ACalls.lend1 hm (by repeat (first | exact .here _ _ _ | apply Look.there)) ?_
            rintro _ -
            rw [← hflS (mendL _)]
            (refine g0_ ?_; repeat ((first | refine n1_ fun b_ => ?_ | refine n2_ fun b_ => ?_ | refine n3_ fun b_ pre_ => ?_ | refine Nat1.mk fun q_ hq_ => ?_ | refine em_ fun x_ hx_ => ?_ | refine Elem1.mk fun e_ he_ => ?_); refine g0_ ?_))
            refine head_ ?_; (refine g0_ ?_; repeat ((first | refine n1_ fun b_ => ?_ | refine n2_ fun b_ => ?_ | refine n3_ fun b_ pre_ => ?_ | refine Nat1.mk fun q_ hq_ => ?_ | refine em_ fun x_ hx_ => ?_ | refine Elem1.mk fun e_ he_ => ?_); refine g0_ ?_))
            rw [behind] at hP
            dsimp only at hP
            by_cases hE : (x : Int) + widthL r < w
            · rw [if_pos hE] at hP
              cases hP
              (refine g1_ ?_; repeat ((first | refine n1_ fun b_ => ?_ | refine n2_ fun b_ => ?_ | refine n3_ fun b_ pre_ => ?_ | refine Nat1.mk fun q_ hq_ => ?_ | refine em_ fun x_ hx_ => ?_ | refine Elem1.mk fun e_ he_ => ?_); refine g1_ ?_))
              exact ⟨(bg', pre'), hp', rfl, by (first | exact ⟨_, .refl _⟩ | exact wkMem.rfl' | exact ⟨_, .swap _ _ _⟩ | (repeat (first | exact wkMem.nil _ | exact wkMem.rfl' | exact wk_snoc _ _ _ | exact wk_fam (by assumption) _ _ _ | exact wk_famN (by assumption) _ _ _ | (apply wkMem.cons; (case' hl => (repeat (first | exact .here _ _ _ | apply Look.there)))) | apply wkMem.skip)))⟩
            · rw [if_neg hE] at hP
              try simp only [wrapB, hC, not_false_eq_true, decide_true] at hP
              cases hP
              (refine g1_ ?_; repeat ((first | refine n1_ fun b_ => ?_ | refine n2_ fun b_ => ?_ | refine n3_ fun b_ pre_ => ?_ | refine Nat1.mk fun q_ hq_ => ?_ | refine em_ fun x_ hx_ => ?_ | refine Elem1.mk fun e_ he_ => ?_); refine g1_ ?_))
              exact ⟨(bg', pre'), hp', rfl, by (first | exact ⟨_, .refl _⟩ | exact wkMem.rfl' | exact ⟨_, .swap _ _ _⟩ | (repeat (first | exact wkMem.nil _ | exact wkMem.rfl' | exact wk_snoc _ _ _ | exact wk_fam (by assumption) _ _ _ | exact wk_famN (by assumption) _ _ _ | (apply wkMem.cons; (case' hl => (repeat (first | exact .here _ _ _ | apply Look.there)))) | apply wkMem.skip)))⟩
          · first
              | (exfalso; omega)
              | (skip
                 rw [putR, if_neg h2] at hP
                 (refine g1_ ?_; repeat ((first | refine n1_ fun b_ => ?_ | refine n2_ fun b_ => ?_ | refine n3_ fun b_ pre_ => ?_ | refine Nat1.mk fun q_ hq_ => ?_ | refine em_ fun x_ hx_ => ?_ | refine Elem1.mk fun e_ he_ => ?_); refine g1_ ?_))
                 have hm := mend_ok W bc pr (row'.set x (Cell.mk r ⟨fo, ba, bi⟩)) post (by rw [List.length_set]; omega)
                 rw [hpre, List.length_set, hrl'] at hm
                 refine ACalls.lend1 hm (by repeat (first | exact .here _ _ _ | apply Look.there)) ?_
                 rintro _ -
                 rw [← hflS (mendL _)]
                 (refine g0_ ?_; repeat ((first | refine n1_ fun b_ => ?_ | refine n2_ fun b_ => ?_ | refine n3_ fun b_ pre_ => ?_ | refine Nat1.mk fun q_ hq_ => ?_ | refine em_ fun x_ hx_ => ?_ | refine Elem1.mk fun e_ he_ => ?_); refine g0_ ?_))
                 refine head_ ?_; (refine g0_ ?_; repeat ((first | refine n1_ fun b_ => ?_ | refine n2_ fun b_ => ?_ | refine n3_ fun b_ pre_ => ?_ | refine Nat1.mk fun q_ hq_ => ?_ | refine em_ fun x_ hx_ => ?_ | refine Elem1.mk fun e_ he_ => ?_); refine g0_ ?_))
                 rw [behind] at hP
                 dsimp only at hP
                 by_cases hE : (x : Int) + widthL r < w
                 · rw [if_pos hE] at hP
                   cases hP
                   (refine g1_ ?_; repeat ((first | refine n1_ fun b_ => ?_ | refine n2_ fun b_ => ?_ | refine n3_ fun b_ pre_ => ?_ | refine Nat1.mk fun q_ hq_ => ?_ | refine em_ fun x_ hx_ => ?_ | refine Elem1.mk fun e_ he_ => ?_); refine g1_ ?_))
                   exact ⟨(bg', pre'), hp', rfl, by (first | exact ⟨_, .refl _⟩ | exact wkMem.rfl' | exact ⟨_, .swap _ _ _⟩ | (repeat (first | exact wkMem.nil _ | exact wkMem.rfl' | exact wk_snoc _ _ _ | exact wk_fam (by assumption) _ _ _ | exact wk_famN (by assumption) _ _ _ | (apply wkMem.cons; (case' hl => (repeat (first | exact .here _ _ _ | apply Look.there)))) | apply wkMem.skip)))⟩
                 · rw [if_neg hE] at hP
                   try simp only [wrapB, hC, not_false_eq_true, decide_true] at hP
                   cases hP
                   (refine g1_ ?_; repeat ((first | refine n1_ fun b_ => ?_ | refine n2_ fun b_ => ?_ | refine n3_ fun b_ pre_ => ?_ | refine Nat1.mk fun q_ hq_ => ?_ | refine em_ fun x_ hx_ => ?_ | refine Elem1.mk fun e_ he_ => ?_); refine g1_ ?_))
                   exact ⟨(bg', pre'), hp', rfl, by (first | exact ⟨_, .refl _⟩ | exact wkMem.rfl' | exact ⟨_, .swap _ _ _⟩ | (repeat (first | exact wkMem.nil _ | exact wkMem.rfl' | exact wk_snoc _ _ _ | exact wk_fam (by assumption) _ _ _ | exact wk_famN (by assumption) _ _ _ | (apply wkMem.cons; (case' hl => (repeat (first | exact .here _ _ _ | apply Look.there)))) | apply wkMem.skip)))⟩
                 )
end Go.Eng.YtphoefglfbifdaaDoor
end
