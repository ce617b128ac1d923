/- Texts put together: Scr6. -/
import Derived.Test.YtphoefglfbifdaaDoorMW4
import Derived.Test.YtphoefglfbifdaaDoorME8
/- Screens of the call's own: rows that scroll up. -/
section
namespace Go.Eng.YtphoefglfbifdaaDoor
open Go Go.Eng Go.Proofs
variable (W : World)
set_option linter.unusedSimpArgs false
set_option maxRecDepth 100000
set_option linter.unusedVariables false
set_option maxHeartbeats 8000000
theorem stepU_fst (back : Int) (w top bottom : Nat) (p : List (List Cell) × List (List Cell)) : (stepU back w top bottom p).1 = upR back w top bottom p.1 := rfl
/-- The rows that are gone: their block, and what stood ahead of them. -/
abbrev gonB (bg : Nat) (pre : List PV) (gone : List (List Cell)) : Blk := ⟨bg, .row 1 (pre ++ gone.map encRow) 0⟩
/-- A copy of a row of the call's own is written no more. -/
theorem cloneF_cells (b i n : Nat) (l : List Cell) (h0 : 0 < n) (hn : i + n ≤ l.length) (hl : n * 32 ≤ 140737488355328) {σ ρ : Mem} {k : PV → Mem → Prop} (hσ : σ.Perm (⟨b, .row 4 (l.map encCell) 0⟩ :: ρ)) (hk : k (encRow ((l.drop i).take n)) (⟨b, .row 4 (l.map encCell) 0⟩ :: ρ)) :
    ACalls Tryd.prog W 56 [.rsl b 4 i n] σ k := by
  have hlen : ((l.drop i).take n).length = n := by simp; omega
  exact ACalls.lendG (M := fun b' : Nat => [⟨b', .row 4 (((l.drop i).take n).map encCell) 0⟩]) (N := fun _ => [⟨b, .row 4 (l.map encCell) 0⟩]) (cloneB_cells W b i n l 0 h0 hn hl) (τ := [_]) (ρ := ρ) hσ (fun b' => frz_row (.here _ _ _) _ (by simp; omega)) fun _ _ => hk
theorem cloneQ_cells (b i n : Nat) (l : List Cell) (h0 : 0 < n) (hn : i + n ≤ l.length) (hl : n * 32 ≤ 140737488355328) {σ r : Mem} (hσ : Look σ b (.row 4 (l.map encCell) 0) r) :
    Quiet Tryd.prog W 56 [.rsl b 4 i n] σ (encRow ((l.drop i).take n)) :=
  ⟨fun _ hk => ACalls.weak (cloneF_cells W b i n l h0 hn hl hσ.perm ⟨σ, hk, [], by rw [List.append_nil]; exact hσ.perm.symm⟩)⟩
theorem up_ok (b bc : Nat) (tv : PV) (s : Scr) {w h : Nat} {L : List (List Cell)} (f : RowsOk L w h) (hw : s.g.w = w) (hh : s.g.h = h) (top bottom n : Nat) (htb : top ≤ bottom) (hbh : bottom < h) (hbo : s.bottom = bottom) (hn : n ≤ 10000)
    (bg : Nat) (pre : List PV) (gone : List (List Cell)) (hp : pre = [] ∨ gone ≠ []) (hg : gone.length ≤ 50) :
    ACalls Tryd.prog W 44 [.bref b 0, .int .i64 top, .int .i64 n] [scrB b bc (h * w) tv (.rsl bg 1 pre.length gone.length) s, ⟨bc, .row 4 (L.flatten.map encCell) 0⟩, gonB bg pre gone]
      (Gives (fun _ : Nat × List PV => .tup []) (fun x => [scrB b bc (h * w) tv (.rsl x.1 1 x.2.length (iterF (stepU s.look.back w top bottom) (min n (bottom - top + 1)) (L, gone)).2.length) s,
        ⟨bc, .row 4 ((iterF (stepU s.look.back w top bottom) (min n (bottom - top + 1)) (L, gone)).1.flatten.map encCell) 0⟩, gonB x.1 x.2 (iterF (stepU s.look.back w top bottom) (min n (bottom - top + 1)) (L, gone)).2]) (fun x => x.2 = [] ∨ (iterF (stepU s.look.back w top bottom) (min n (bottom - top + 1)) (L, gone)).2 ≠ [])) := by
  have hck := fun (gv : PV) {L' : List (List Cell)} (f' : RowsOk L' w h) {row : List Cell} (hrow : L'[bottom]? = some row) => clear_ok W b bc tv gv s f' hw hh bottom 0 w hrow (by omega) (by have := f.w2; omega)
  have hsm := f.small
  have hh2 := f.h2
  have hw1 := f.w1
  have hw2 := f.w2
  obtain ⟨⟨gw, gh, cs⟩, X, Y, late, ⟨fo, ba, bi⟩, tp, bo, modes, tabs, kx, ky, ⟨f2, b2, bi2⟩, km, last, title, gn⟩ := s
  dsimp only at *
  subst hw hh hbo
  have hsB : ∀ gv : PV, scrB b bc (h * w) tv gv ⟨⟨w, h, cs⟩, X, Y, late, ⟨fo, ba, bi⟩, tp, bottom, modes, tabs, kx, ky, ⟨f2, b2, bi2⟩, km, last, title, gn⟩ = ⟨b, .row 22 [.agg [.int .i64 w, .int .i64 h, .rsl bc 4 0 (h * w), .int .i64 X, .int .i64 Y, .bool late, .int .i64 fo, .int .i64 ba, .int .i64 bi, .int .i64 tp, .int .i64 bottom, .int .i64 modes, tv, .int .i64 kx, .int .i64 ky, .int .i64 f2, .int .i64 b2, .int .i64 bi2, .int .i64 km, .int .i32 last, .str title, gv]] 0⟩ := fun _ => rfl
  simp only [hsB] at *
  clear hsB
  have hb1 : (bottom + 1) * w ≤ h * w := Nat.mul_le_mul_right _ (by omega)
  have hb2 : (top + 1) * w ≤ (bottom + 1) * w := Nat.mul_le_mul_right _ (by omega)
  have hb3 : top * w ≤ h * w := Nat.mul_le_mul_right _ (by omega)
  have ib1 : ((bottom : Int) + 1) * w ≤ h * w := by exact_mod_cast hb1
  have ib2 : ((top : Int) + 1) * w ≤ (bottom + 1) * w := by exact_mod_cast hb2
  have ib3 : (top : Int) * w ≤ h * w := by exact_mod_cast hb3
  have ib5 : (h : Int) * w ≤ 7200 := by exact_mod_cast hsm
  have ib6 : 0 ≤ (top : Int) * w := Int.mul_nonneg (by omega) (by omega)
  have ib7 : (top : Int) * w ≤ (top + 1) * w := Int.mul_le_mul_of_nonneg_right (by omega) (by omega)
  obtain ⟨K, hK⟩ : ∃ K, K = min n (bottom - top + 1) := ⟨_, rfl⟩
  rw [← hK]
  generalize hF : iterF (stepU ba w top bottom) K (L, gone) = F
  obtain ⟨FL, FG⟩ := F
  dsimp only
  refine acalls_of_vc (DJ_ok (by decide)) Tryd.func44 rfl (by decide) (by decide) rfl ?_
  (refine g0_ ?_; repeat ((first | refine n1_ fun b_ => ?_ | refine n2_ fun b_ => ?_ | refine n3_ fun b_ pre_ => ?_); refine g0_ ?_))
  refine' loopI (α := Nat × (List (List Cell)) × (List (List Cell)) × Nat × (List PV)) (fun (i, L', gone', bg', pre') => [(15, .int .i64 i)]) [(0, _), (1, _), (14, _)] (fun (i, L', gone', bg', pre') => [⟨b, .row 22 [.agg [.int .i64 w, .int .i64 h, .rsl bc 4 0 (h * w), .int .i64 X, .int .i64 Y, .bool late, .int .i64 fo, .int .i64 ba, .int .i64 bi, .int .i64 tp, .int .i64 bottom, .int .i64 modes, tv, .int .i64 kx, .int .i64 ky, .int .i64 f2, .int .i64 b2, .int .i64 bi2, .int .i64 km, .int .i32 last, .str title, .rsl bg' 1 pre'.length gone'.length]] 0⟩, ⟨bc, .row 4 (L'.flatten.map encCell) 0⟩, gonB bg' pre' gone']) (fun (i, L', gone', bg', pre') => RowsOk L' w h ∧ i ≤ K ∧ iterF (stepU ba w top bottom) (K - i) (L', gone') = (FL, FG) ∧ (pre' = [] ∨ gone' ≠ []) ∧ gone'.length ≤ 50) (fun (i, L', gone', bg', pre') => K - i) (0, L, gone, bg, pre) ?_ ?_
  · exact ⟨f, Nat.zero_le _, hF, hp, hg⟩
  rintro ⟨i, L', gone', bg', pre'⟩ ⟨f', hi, hit, hp', hg'⟩
  (refine g0_ ?_; repeat ((first | refine n1_ fun b_ => ?_ | refine n2_ fun b_ => ?_ | refine n3_ fun b_ pre_ => ?_); refine g0_ ?_))
  refine brec ?_; intro c_ h1; (try rw [h1]); cases c_ <;> replace h1 := nm_ h1
  · have e : i = K := by split at h1 <;> omega
    rw [e, Nat.sub_self, iterF] at hit
    cases hit
    (refine g0_ ?_; repeat ((first | refine n1_ fun b_ => ?_ | refine n2_ fun b_ => ?_ | refine n3_ fun b_ pre_ => ?_); refine g0_ ?_))
    exact ⟨(bg', pre'), hp', rfl, by (first | exact ⟨_, .refl _⟩ | exact wkMem.rfl' | exact ⟨_, .swap _ _ _⟩ | (repeat (first | exact wkMem.nil _ | exact wkMem.rfl' | exact wk_snoc _ _ _ | exact wk_fam (by assumption) _ _ _ | exact wk_famN (by assumption) _ _ _ | (apply wkMem.cons; (case' hl => (repeat (first | exact .here _ _ _ | apply Look.there)))) | apply wkMem.skip)))⟩
  · have hfl := f'.flat
    have hiK : i < K := by split at h1 <;> omega
    (refine gj_ ?_; repeat ((first | refine n1_ fun b_ => ?_ | refine n2_ fun b_ => ?_ | refine n3_ fun b_ pre_ => ?_); refine gj_ ?_))
    first | refine' joinT (α := (List (List Cell)) × Nat × (List PV)) (fun (g2, bg2, pre2) => []) [(0, _), (1, _), (14, _), (15, _)] (fun (g2, bg2, pre2) => [⟨b, .row 22 [.agg [.int .i64 w, .int .i64 h, .rsl bc 4 0 (h * w), .int .i64 X, .int .i64 Y, .bool late, .int .i64 fo, .int .i64 ba, .int .i64 bi, .int .i64 tp, .int .i64 bottom, .int .i64 modes, tv, .int .i64 kx, .int .i64 ky, .int .i64 f2, .int .i64 b2, .int .i64 bi2, .int .i64 km, .int .i32 last, .str title, .rsl bg2 1 pre2.length g2.length]] 0⟩, ⟨bc, .row 4 (L'.flatten.map encCell) 0⟩, gonB bg2 pre2 g2]) (fun (g2, bg2, pre2) => g2 = (if top = 0 then goneR (gone' ++ L'.take 1) else gone') ∧ (pre2 = [] ∨ g2 ≠ []) ∧ g2.length ≤ 50) ?_ ?_ | refine' joinF (α := (List (List Cell)) × Nat × (List PV)) (fun (g2, bg2, pre2) => []) [(0, _), (1, _), (14, _), (15, _)] (fun (g2, bg2, pre2) => [⟨b, .row 22 [.agg [.int .i64 w, .int .i64 h, .rsl bc 4 0 (h * w), .int .i64 X, .int .i64 Y, .bool late, .int .i64 fo, .int .i64 ba, .int .i64 bi, .int .i64 tp, .int .i64 bottom, .int .i64 modes, tv, .int .i64 kx, .int .i64 ky, .int .i64 f2, .int .i64 b2, .int .i64 bi2, .int .i64 km, .int .i32 last, .str title, .rsl bg2 1 pre2.length g2.length]] 0⟩, ⟨bc, .row 4 (L'.flatten.map encCell) 0⟩, gonB bg2 pre2 g2]) (fun (g2, bg2, pre2) => g2 = (if top = 0 then goneR (gone' ++ L'.take 1) else gone') ∧ (pre2 = [] ∨ g2 ≠ []) ∧ g2.length ≤ 50) ?_ ?_
    · refine brec ?_; intro c_ h3; (try rw [h3]); cases c_ <;> replace h3 := nm_ h3
      · rw [if_neg (by omega)] 
        (refine g0_ ?_; repeat ((first | refine n1_ fun b_ => ?_ | refine n2_ fun b_ => ?_ | refine n3_ fun b_ pre_ => ?_); refine g0_ ?_))
        refine jx_ (gone', bg', pre') ?_
        exact ⟨rfl, hp', hg'⟩
      · obtain rfl : top = 0 := by omega
        obtain ⟨row0, hr0, hrl0⟩ := f'.at (y := 0) (by omega)
        have h0w : 0 * w + w ≤ L'.flatten.length := by rw [hfl]; simp; exact Nat.le_mul_of_pos_left w (by omega)
        rw [if_pos rfl]
        rcases pre' with _ | ⟨p0, pre'⟩
        · (refine g0_ ?_; repeat ((first | refine n1_ fun b_ => ?_ | refine n2_ fun b_ => ?_ | refine n3_ fun b_ pre_ => ?_); refine g0_ ?_))
          refine Draws8.mid ⟨12, 15, _, by decide +kernel, rfl, ?_⟩
          (refine g0_ ?_; repeat ((first | refine n1_ fun b_ => ?_ | refine n2_ fun b_ => ?_ | refine n3_ fun b_ pre_ => ?_); refine g0_ ?_))
          refine ⟨_, (rowOwn_ok W bc (h * w) w 0 h (by rw [← hfl]; simpa using h0w) (by omega) (by omega) (by omega)).quiet, ?_⟩; (refine g0_ ?_; repeat ((first | refine n1_ fun b_ => ?_ | refine n2_ fun b_ => ?_ | refine n3_ fun b_ pre_ => ?_); refine g0_ ?_))
          refine ⟨_, cloneQ_cells W bc (0 * w) w L'.flatten (by omega) h0w (by omega) (by repeat (first | exact .here _ _ _ | apply Look.there)), ?_⟩
          (refine g0_ ?_; repeat ((first | refine n1_ fun b_ => ?_ | refine n2_ fun b_ => ?_ | refine n3_ fun b_ pre_ => ?_); refine g0_ ?_))
          have e0 : (L'.flatten.drop (0 * w)).take w = row0 := by
            have h1 := flat_take f'.row (k := 1) (by rw [f'.len]; omega)
            have h2 : L'.take 1 = [row0] := by
              cases L' with
              | nil => cases hr0
              | cons a t => cases hr0; rfl
            rw [h2, Nat.one_mul] at h1
            rw [Nat.zero_mul, List.drop_zero, h1]
            simp
          have e9 : L'.take 1 = [row0] := by
            cases L' with
            | nil => cases hr0
            | cons a t => cases hr0; rfl
          rw [e0, e9]
          obtain ⟨x, G', hG⟩ : ∃ x G', gone' ++ [row0] = x :: G' := by cases gone' <;> simp
          have hrow : List.map encRow gone' ++ [encRow row0] = (x :: G').map encRow := by rw [← hG, List.map_append]; rfl
          have hlen : gone'.length + 1 = (x :: G').length := by rw [← hG]; simp
          rw [show ([] ++ List.map encRow gone' ++ [((0, Operand.tmp 29).fst, PV.sl 4 (List.map encCell row0)).snd]) = (x :: G').map encRow from hrow,
            show gone'.length + [((0, Operand.tmp 29).fst, PV.sl 4 (List.map encCell row0)).snd].length = (x :: G').length from hlen]
          rw [hG]
          refine brec ?_; intro c_ h5; (try rw [h5]); cases c_ <;> replace h5 := nm_ h5
          · have hl5 : ¬ 50 < (x :: G').length := by omega
            rw [goneR, if_neg hl5]
            (refine g0_ ?_; repeat ((first | refine n1_ fun b_ => ?_ | refine n2_ fun b_ => ?_ | refine n3_ fun b_ pre_ => ?_); refine g0_ ?_))
            refine jx_ (x :: G', b_, []) ?_
            exact ⟨rfl, .inl rfl, by omega⟩
          · have hl5 : 50 < (x :: G').length := by omega
            rw [goneR, if_pos hl5]
            (refine g0_ ?_; repeat ((first | refine n1_ fun b_ => ?_ | refine n2_ fun b_ => ?_ | refine n3_ fun b_ pre_ => ?_); refine g0_ ?_))
            refine jx_ (G', b_, [encRow x]) ?_
            exact ⟨rfl, .inr (by intro h0; rw [h0] at hl5; simp at hl5), by simp at hlen; omega⟩
        · have hgp : 0 < gone'.length := by
            rcases hp' with h0 | h0
            · cases h0
            · exact List.length_pos_iff.2 h0
          have hes : ((p0 :: pre') ++ gone'.map encRow).length = pre'.length + 1 + gone'.length := by simp; omega
          (refine g0_ ?_; repeat ((first | refine n1_ fun b_ => ?_ | refine n2_ fun b_ => ?_ | refine n3_ fun b_ pre_ => ?_); refine g0_ ?_))
          refine Draws8.mid ⟨12, 15, _, by decide +kernel, rfl, ?_⟩
          (refine g0_ ?_; repeat ((first | refine n1_ fun b_ => ?_ | refine n2_ fun b_ => ?_ | refine n3_ fun b_ pre_ => ?_); refine g0_ ?_))
          refine ⟨_, (rowOwn_ok W bc (h * w) w 0 h (by rw [← hfl]; simpa using h0w) (by omega) (by omega) (by omega)).quiet, ?_⟩; (refine g0_ ?_; repeat ((first | refine n1_ fun b_ => ?_ | refine n2_ fun b_ => ?_ | refine n3_ fun b_ pre_ => ?_); refine g0_ ?_))
          refine ⟨_, cloneQ_cells W bc (0 * w) w L'.flatten (by omega) h0w (by omega) (by repeat (first | exact .here _ _ _ | apply Look.there)), ?_⟩
          (refine g0_ ?_; repeat ((first | refine n1_ fun b_ => ?_ | refine n2_ fun b_ => ?_ | refine n3_ fun b_ pre_ => ?_); refine g0_ ?_))
          have e0 : (L'.flatten.drop (0 * w)).take w = row0 := by
            have h1 := flat_take f'.row (k := 1) (by rw [f'.len]; omega)
            have h2 : L'.take 1 = [row0] := by
              cases L' with
              | nil => cases hr0
              | cons a t => cases hr0; rfl
            rw [h2, Nat.one_mul] at h1
            rw [Nat.zero_mul, List.drop_zero, h1]
            simp
          have e9 : L'.take 1 = [row0] := by
            cases L' with
            | nil => cases hr0
            | cons a t => cases hr0; rfl
          rw [e0, e9]
          obtain ⟨x, G', hG⟩ : ∃ x G', gone' ++ [row0] = x :: G' := by cases gone' <;> simp
          have hrow : List.map encRow gone' ++ [encRow row0] = (x :: G').map encRow := by rw [← hG, List.map_append]; rfl
          have hlen : gone'.length + 1 = (x :: G').length := by rw [← hG]; simp
          have hdrop : List.drop (pre'.length + 1) (p0 :: pre' ++ List.map encRow gone') = List.map encRow gone' := List.drop_left' (by simp)
          rw [show (pre_ ++ (List.drop (pre'.length + 1) (p0 :: pre' ++ List.map encRow gone') ++ [((0, Operand.tmp 29).fst, PV.sl 4 (List.map encCell row0)).snd])) = pre_ ++ (x :: G').map encRow from by rw [hdrop]; exact congrArg (pre_ ++ ·) hrow,
            show gone'.length + [((0, Operand.tmp 29).fst, PV.sl 4 (List.map encCell row0)).snd].length = (x :: G').length from hlen]
          rw [hG]
          refine brec ?_; intro c_ h5; (try rw [h5]); cases c_ <;> replace h5 := nm_ h5
          · have hl5 : ¬ 50 < (x :: G').length := by omega
            rw [goneR, if_neg hl5]
            (refine g0_ ?_; repeat ((first | refine n1_ fun b_ => ?_ | refine n2_ fun b_ => ?_ | refine n3_ fun b_ pre_ => ?_); refine g0_ ?_))
            refine jx_ (x :: G', b_, pre_) ?_
            exact ⟨rfl, .inr (by intro h0; cases h0), by omega⟩
          · have hl5 : 50 < (x :: G').length := by omega
            rw [goneR, if_pos hl5]
            (refine g0_ ?_; repeat ((first | refine n1_ fun b_ => ?_ | refine n2_ fun b_ => ?_ | refine n3_ fun b_ pre_ => ?_); refine g0_ ?_))
            rw [show pre_ ++ (x :: G').map encRow = (pre_ ++ [encRow x]) ++ G'.map encRow by simp, show pre_.length + 1 = (pre_ ++ [encRow x]).length by simp]
            refine jx_ (G', b_, pre_ ++ [encRow x]) ?_
            exact ⟨rfl, .inr (by intro h0; rw [h0] at hl5; simp at hl5), by simp at hlen; omega⟩
    rintro ⟨g2, bg2, pre2⟩ ⟨hg2, hp2, hl2⟩
    (refine g0_ ?_; repeat ((first | refine n1_ fun b_ => ?_ | refine n2_ fun b_ => ?_ | refine n3_ fun b_ pre_ => ?_); refine g0_ ?_))
    refine Draws8.old (head_ ?_)
    (refine g0_ ?_; repeat ((first | refine n1_ fun b_ => ?_ | refine n2_ fun b_ => ?_ | refine n3_ fun b_ pre_ => ?_); refine g0_ ?_))
    refine need.mk (by rw [List.length_map, hfl, Nat.zero_add]; exact seg_le hb2 hb1) ?_
    (refine g0_ ?_; repeat ((first | refine n1_ fun b_ => ?_ | refine n2_ fun b_ => ?_ | refine n3_ fun b_ pre_ => ?_); refine g0_ ?_))
    refine need.mk ⟨by rw [List.length_map, hfl, Nat.zero_add]; exact seg_le hb3 (Nat.le_refl _), ?_, by omega⟩ ?_
    · rw [← List.map_drop, ← List.map_take]; exact cells_all _
    simp only [Nat.zero_add]
    rw [up_copy f' htb hbh]
    have f2' := f'.mid htb hbh
    obtain ⟨row, hrow, hrl⟩ := f2'.at (y := bottom) (by omega)
    have hcl := hck (.rsl bg2 1 pre2.length g2.length) f2' hrow
    have e2 : (midR top bottom L').set bottom (clearR ba 0 w row) = upR ba w top bottom L' := by rw [clear_all ba (by omega), hrl]; rfl
    rw [e2] at hcl
    (refine g0_ ?_; repeat ((first | refine n1_ fun b_ => ?_ | refine n2_ fun b_ => ?_ | refine n3_ fun b_ pre_ => ?_); refine g0_ ?_))
    refine Draws8.old (Draws.head ⟨10, by decide +kernel, ?_⟩)
    (refine g0_ ?_; repeat ((first | refine n1_ fun b_ => ?_ | refine n2_ fun b_ => ?_ | refine n3_ fun b_ pre_ => ?_); refine g0_ ?_))
    refine ACalls.lend hcl (r := [gonB bg2 pre2 g2]) (by first | exact .refl _ | exact .swap _ _ _) ?_
    rintro _ -
    (refine g0_ ?_; repeat ((first | refine n1_ fun b_ => ?_ | refine n2_ fun b_ => ?_ | refine n3_ fun b_ pre_ => ?_); refine g0_ ?_))
    refine nx_ (i + 1, upR ba w top bottom L', g2, bg2, pre2) ?_ ?_
    · refine ⟨f'.up htb hbh ba, by omega, ?_, hp2, hl2⟩
      rw [← hit, show K - i = (K - (i + 1)) + 1 by omega, iterF, stepU, hg2]
    · show K - (i + 1) < K - i
      omega
end Go.Eng.YtphoefglfbifdaaDoor
end
