/- Texts put together: ScrD. -/
import Derived.Test.YtphoefglfbifdaaDoorMW7
import Derived.Test.YtphoefglfbifdaaDoorME10
import Derived.Test.YtphoefglfbifdaaDoorMW6
/- Screens of the call's own: rows that go up, where what is gone stays as it was (b_ pre_). -/
section
namespace Go.Eng.YtphoefglfbifdaaDoor
open Go Go.Eng Go.Proofs
variable (W : World)
set_option linter.unusedSimpArgs false
set_option maxRecDepth 100000
set_option linter.unusedVariables false
set_option maxHeartbeats 8000000
/-- What is gone, while rows go: where it stands, what stands ahead of it, its elements; is what it was beside it. -/
abbrev GonS := Option (Nat × List PV) × List PV × List PV
def gonSV (bg : Nat) : GonS → PV
  | (none, pre, es) => .rsl bg 1 pre.length es.length
  | (some b, pre, es) => .rsl b.1 1 pre.length es.length
def gonSM (bg : Nat) (l : List PV) (x : GonS) : Mem := match x with
  | (none, pre, es) => [⟨bg, .row 1 (pre ++ es) 0⟩]
  | (some b, pre, es) => [⟨b.1, .row 1 (pre ++ es) 0⟩, ⟨bg, .row 1 (l ++ b.2) 0⟩]
structure GonSOk (l : List PV) (x : GonS) : Prop where
  all : x.2.2.all cellsB = true
  len : x.2.2.length ≤ 50
  pos : x.2.1 = [] ∨ x.2.2 ≠ []
  pre : x.1 = none → ∃ t, x.2.1 ++ x.2.2 = l ++ t
theorem GonSOk.frz {bg : Nat} {l : List PV} {x : GonS} (h : GonSOk l x) {n : Nat} (hn : n = l.length) : Frz (gonSM bg l x) (.rsl bg 1 0 n) (.sl 1 l) := by
  subst hn
  have key : ∀ (σ : Mem) (t r : List PV) (ρ : Mem), Look σ bg (.row 1 (l ++ t) 0) ρ → Frz σ (.rsl bg 1 0 l.length) (.sl 1 l) := fun σ t r ρ hlk => by
    refine .rsl bg 1 0 _ (l ++ t) l 0 ρ hlk (by simp) rfl fun j hj => ?_
    rw [Nat.zero_add, List.getD_eq_getElem?_getD, List.getElem?_append_left hj, ← List.getD_eq_getElem?_getD]
    exact .refl _
  obtain ⟨_ | b, pre, es⟩ := x
  · obtain ⟨t, ht⟩ := h.pre rfl
    dsimp only at ht
    refine key _ t [] [] ?_
    rw [← ht]
    exact .here _ _ _
  · exact key _ b.2 [] _ (.there _ _ _ _ _ (.here _ _ _))
theorem upD_ok (b bc : Nat) (tv : PV) (s : Scr) {w h : Nat} {L : List (List Cell)} (f : RowsOk L w h) (hw : s.g.w = w) (hh : s.g.h = h) (top bottom n : Nat) (htb : top ≤ bottom) (hbh : bottom < h) (hbo : s.bottom = bottom) (hn : n ≤ 10000)
    (bg : Nat) (l : List PV) (hl : l.all cellsB = true) (hl5 : l.length ≤ 50) :
    ACalls Tryd.prog W 44 [.bref b 0, .int .i64 top, .int .i64 n] [scrB b bc (h * w) tv (.rsl bg 1 0 l.length) s, ⟨bc, .row 4 (L.flatten.map encCell) 0⟩, ⟨bg, .row 1 l 0⟩]
      (Gives (fun _ : GonS => .tup []) (fun x => scrB b bc (h * w) tv (gonSV bg x) s :: ⟨bc, .row 4 ((iterF (upR s.look.back w top bottom) (min n (bottom - top + 1)) L).flatten.map encCell) 0⟩ :: gonSM bg l x) (fun x => GonSOk l x)) := by
  have hck := fun (gv : PV) {L' : List (List Cell)} (f' : RowsOk L' w h) {row : List Cell} (hrow : L'[bottom]? = some row) => clear_ok W b bc tv gv s f' hw hh bottom 0 w hrow (by omega) (by have := f.w2; omega)
  have hsm := f.small
  have hh2 := f.h2
  have hw1 := f.w1
  have hw2 := f.w2
  obtain ⟨⟨gw, gh, cs⟩, X, Y, late, ⟨fo, ba, bi⟩, tp, bo, modes, tabs, kx, ky, ⟨f2, b2, bi2⟩, km, last, title, gn⟩ := s
  dsimp only at *
  subst hw hh hbo
  have hsB : ∀ gv : PV, scrB b bc (h * w) tv gv ⟨⟨w, h, cs⟩, X, Y, late, ⟨fo, ba, bi⟩, tp, bottom, modes, tabs, kx, ky, ⟨f2, b2, bi2⟩, km, last, title, gn⟩ = ⟨b, .row 22 [.agg [.int .i64 w, .int .i64 h, .rsl bc 4 0 (h * w), .int .i64 X, .int .i64 Y, .bool late, .int .i64 fo, .int .i64 ba, .int .i64 bi, .int .i64 tp, .int .i64 bottom, .int .i64 modes, tv, .int .i64 kx, .int .i64 ky, .int .i64 f2, .int .i64 b2, .int .i64 bi2, .int .i64 km, .int .i32 last, .str title, gv]] 0⟩ := fun _ => rfl
  simp only [hsB] at *
  clear hsB
  have hb1 : (bottom + 1) * w ≤ h * w := Nat.mul_le_mul_right _ (by omega)
  have hb2 : (top + 1) * w ≤ (bottom + 1) * w := Nat.mul_le_mul_right _ (by omega)
  have hb3 : top * w ≤ h * w := Nat.mul_le_mul_right _ (by omega)
  have ib1 : ((bottom : Int) + 1) * w ≤ h * w := by exact_mod_cast hb1
  have ib2 : ((top : Int) + 1) * w ≤ (bottom + 1) * w := by exact_mod_cast hb2
  have ib3 : (top : Int) * w ≤ h * w := by exact_mod_cast hb3
  have ib5 : (h : Int) * w ≤ 7200 := by exact_mod_cast hsm
  have ib6 : 0 ≤ (top : Int) * w := Int.mul_nonneg (by omega) (by omega)
  have ib7 : (top : Int) * w ≤ (top + 1) * w := Int.mul_le_mul_of_nonneg_right (by omega) (by omega)
  obtain ⟨K, hK⟩ : ∃ K, K = min n (bottom - top + 1) := ⟨_, rfl⟩
  rw [← hK]
  generalize hF : iterF (upR ba w top bottom) K L = F
  refine acalls_of_vc (DM_ok (by decide)) Tryd.func44 rfl (by decide) (by decide) rfl ?_
  (refine g0_ ?_; repeat ((first | refine n1_ fun b_ => ?_ | refine n2_ fun b_ => ?_ | refine n3_ fun b_ pre_ => ?_); refine g0_ ?_))
  refine' loopI (α := Nat × (List (List Cell)) × GonS) (fun (i, L', x) => [(15, .int .i64 i)]) [(0, _), (1, _), (14, _)] (fun (i, L', x) => ⟨b, .row 22 [.agg [.int .i64 w, .int .i64 h, .rsl bc 4 0 (h * w), .int .i64 X, .int .i64 Y, .bool late, .int .i64 fo, .int .i64 ba, .int .i64 bi, .int .i64 tp, .int .i64 bottom, .int .i64 modes, tv, .int .i64 kx, .int .i64 ky, .int .i64 f2, .int .i64 b2, .int .i64 bi2, .int .i64 km, .int .i32 last, .str title, gonSV bg x]] 0⟩ :: ⟨bc, .row 4 (L'.flatten.map encCell) 0⟩ :: gonSM bg l x) (fun (i, L', x) => RowsOk L' w h ∧ i ≤ K ∧ iterF (upR ba w top bottom) (K - i) L' = F ∧ GonSOk l x) (fun (i, L', x) => K - i) (0, L, (none, [], l)) ?_ ?_
  · exact ⟨f, Nat.zero_le _, hF, hl, hl5, .inl rfl, fun _ => ⟨[], by simp⟩⟩
  rintro ⟨i, L', x⟩ ⟨f', hi, hit, hx⟩
  (refine g0_ ?_; repeat ((first | refine n1_ fun b_ => ?_ | refine n2_ fun b_ => ?_ | refine n3_ fun b_ pre_ => ?_); refine g0_ ?_))
  refine brec ?_; intro c_ h1; (try rw [h1]); cases c_ <;> replace h1 := nm_ h1
  · have e : i = K := by split at h1 <;> omega
    rw [e, Nat.sub_self, iterF] at hit
    cases hit
    (refine g0_ ?_; repeat ((first | refine n1_ fun b_ => ?_ | refine n2_ fun b_ => ?_ | refine n3_ fun b_ pre_ => ?_); refine g0_ ?_))
    exact ⟨x, hx, rfl, wkMem.rfl'⟩
  · have hfl := f'.flat
    have hiK : i < K := by split at h1 <;> omega
    (refine gj_ ?_; repeat ((first | refine n1_ fun b_ => ?_ | refine n2_ fun b_ => ?_ | refine n3_ fun b_ pre_ => ?_); refine gj_ ?_))
    first | refine' joinT (α := GonS) (fun x2 => []) [(0, _), (1, _), (14, _), (15, _)] (fun x2 => ⟨b, .row 22 [.agg [.int .i64 w, .int .i64 h, .rsl bc 4 0 (h * w), .int .i64 X, .int .i64 Y, .bool late, .int .i64 fo, .int .i64 ba, .int .i64 bi, .int .i64 tp, .int .i64 bottom, .int .i64 modes, tv, .int .i64 kx, .int .i64 ky, .int .i64 f2, .int .i64 b2, .int .i64 bi2, .int .i64 km, .int .i32 last, .str title, gonSV bg x2]] 0⟩ :: ⟨bc, .row 4 (L'.flatten.map encCell) 0⟩ :: gonSM bg l x2) (fun x2 => GonSOk l x2) ?_ ?_ | refine' joinF (α := GonS) (fun x2 => []) [(0, _), (1, _), (14, _), (15, _)] (fun x2 => ⟨b, .row 22 [.agg [.int .i64 w, .int .i64 h, .rsl bc 4 0 (h * w), .int .i64 X, .int .i64 Y, .bool late, .int .i64 fo, .int .i64 ba, .int .i64 bi, .int .i64 tp, .int .i64 bottom, .int .i64 modes, tv, .int .i64 kx, .int .i64 ky, .int .i64 f2, .int .i64 b2, .int .i64 bi2, .int .i64 km, .int .i32 last, .str title, gonSV bg x2]] 0⟩ :: ⟨bc, .row 4 (L'.flatten.map encCell) 0⟩ :: gonSM bg l x2) (fun x2 => GonSOk l x2) ?_ ?_
    · refine brec ?_; intro c_ h3; (try rw [h3]); cases c_ <;> replace h3 := nm_ h3
      · (refine g0_ ?_; repeat ((first | refine n1_ fun b_ => ?_ | refine n2_ fun b_ => ?_ | refine n3_ fun b_ pre_ => ?_); refine g0_ ?_))
        refine jx_ x ?_
        exact hx
      · obtain rfl : top = 0 := by omega
        obtain ⟨row0, hr0, hrl0⟩ := f'.at (y := 0) (by omega)
        have h0w : 0 * w + w ≤ L'.flatten.length := by rw [hfl]; simp; exact Nat.le_mul_of_pos_left w (by omega)
        obtain ⟨hal, hle, hpo, hpr⟩ := hx
        obtain ⟨kx, px, es⟩ := x
        dsimp only at hal hle hpo hpr
        obtain ⟨e0, es', hE⟩ : ∃ e0 es', es ++ [((0, Operand.tmp 29).fst, PV.sl 4 (List.map encCell (List.take w (List.drop (0 * w) L'.flatten)))).snd] = e0 :: es' := by cases es <;> exact ⟨_, _, rfl⟩
        have hel : es.length = es'.length := by have := congrArg List.length hE; simpa using this
        have hal2 : (e0 :: es').all cellsB = true := by rw [← hE, List.all_append, hal]; rfl
        have hal3 : es'.all cellsB = true := by simp only [List.all_cons, Bool.and_eq_true] at hal2; exact hal2.2
        have ok : ∀ (k : Option (Nat × List PV)) (A : List PV), (k = none → ∃ t, A ++ (e0 :: es') = l ++ t) → es'.length + 1 ≤ 50 → GonSOk l (k, A, e0 :: es') := fun k A h1 h2 => ⟨hal2, h2, .inr (by simp), h1⟩
        have ok2 : ∀ (k : Option (Nat × List PV)) (A : List PV), (k = none → ∃ t, A ++ (e0 :: es') = l ++ t) → 50 < es'.length + 1 → GonSOk l (k, A ++ [e0], es') := fun k A h1 h2 => ⟨hal3, by show es'.length ≤ 50; omega, .inr (fun h0 => by rw [show es' = [] from h0] at h2; simp at h2), fun h0 => by obtain ⟨t, ht⟩ := h1 h0; exact ⟨t, by rw [← ht]; simp⟩⟩
        obtain _ | ⟨bk, tk⟩ := kx
        · obtain ⟨t, ht⟩ := hpr rfl
          have hpf : ∃ t', px ++ (e0 :: es') = l ++ t' := ⟨t ++ [((0, Operand.tmp 29).fst, PV.sl 4 (List.map encCell (List.take w (List.drop (0 * w) L'.flatten)))).snd], by rw [← hE, ← List.append_assoc, ht, List.append_assoc]⟩
          obtain _ | ⟨p0, pre⟩ := px
          · (refine g0_ ?_; repeat ((first | refine n1_ fun b_ => ?_ | refine n2_ fun b_ => ?_ | refine n3_ fun b_ pre_ => ?_); refine g0_ ?_))
            refine Draws11.tree ⟨16, [.new, .new, .new, .new, .new, .new, .new, .new, .new, .new, .new, .new, .turn, .skip, .skip, .skip], (.one 12 [.again, .keep, .keep, .keep, .keep, .keep, .keep, .keep, .keep, .keep, .keep, .keep, .keep, .new, .new, .turn] (.one 15 [.keep, .keep, .keep, .keep, .keep, .keep, .keep, .keep, .keep, .keep, .keep, .keep, .keep, .keep, .keep, .keep] .fin)), by decide +kernel, ?_⟩; (refine g0_ ?_; repeat ((first | refine n1_ fun b_ => ?_ | refine n2_ fun b_ => ?_ | refine n3_ fun b_ pre_ => ?_); refine g0_ ?_))
            refine ⟨_, (rowOwn_ok W bc (h * w) w 0 h (by rw [← hfl]; simpa using h0w) (by omega) (by omega) (by omega)).quiet, ?_⟩; (refine g0_ ?_; repeat ((first | refine n1_ fun b_ => ?_ | refine n2_ fun b_ => ?_ | refine n3_ fun b_ pre_ => ?_); refine g0_ ?_))
            refine ⟨_, cloneQ_cells W bc (0 * w) w L'.flatten (by omega) h0w (by omega) (by repeat (first | exact .here _ _ _ | apply Look.there)), ?_⟩
            (refine g0_ ?_; repeat ((first | refine n1_ fun b_ => ?_); refine g0_ ?_))
            refine n2k_ ?_ fun b_ => ?_
            · (refine g0_ ?_; repeat ((first | refine n1_ fun b_ => ?_ | refine n2_ fun b_ => ?_ | refine n3_ fun b_ pre_ => ?_); refine g0_ ?_))
              rw [show ([] ++ es ++ [((0, Operand.tmp 29).fst, PV.sl 4 (List.map encCell (List.take w (List.drop (0 * w) L'.flatten)))).snd]) = e0 :: es' from hE]
              rw [show es.length + [((0, Operand.tmp 29).fst, PV.sl 4 (List.map encCell (List.take w (List.drop (0 * w) L'.flatten)))).snd].length = es'.length + 1 by rw [hel]; rfl]
              refine brec ?_; intro c_ h5; (try rw [h5]); cases c_ <;> replace h5 := nm_ h5
              · (refine g0_ ?_; repeat ((first | refine n1_ fun b_ => ?_ | refine n2_ fun b_ => ?_ | refine n3_ fun b_ pre_ => ?_); refine g0_ ?_))
                refine jx_ (none, [], e0 :: es') ?_
                exact ok _ _ (fun h0 => hpf) (by omega)
              · (refine g0_ ?_; repeat ((first | refine n1_ fun b_ => ?_ | refine n2_ fun b_ => ?_ | refine n3_ fun b_ pre_ => ?_); refine g0_ ?_))
                refine jx_ (none, [] ++ [e0], es') ?_
                exact ok2 _ _ (fun h0 => hpf) (by omega)
            · (refine g0_ ?_; repeat ((first | refine n1_ fun b_ => ?_ | refine n2_ fun b_ => ?_ | refine n3_ fun b_ pre_ => ?_); refine g0_ ?_))
              rw [show ([] ++ es ++ [((0, Operand.tmp 29).fst, PV.sl 4 (List.map encCell (List.take w (List.drop (0 * w) L'.flatten)))).snd]) = e0 :: es' from hE]
              rw [show es.length + [((0, Operand.tmp 29).fst, PV.sl 4 (List.map encCell (List.take w (List.drop (0 * w) L'.flatten)))).snd].length = es'.length + 1 by rw [hel]; rfl]
              refine brec ?_; intro c_ h5; (try rw [h5]); cases c_ <;> replace h5 := nm_ h5
              · (refine g0_ ?_; repeat ((first | refine n1_ fun b_ => ?_ | refine n2_ fun b_ => ?_ | refine n3_ fun b_ pre_ => ?_); refine g0_ ?_))
                refine jx_ (some (b_, t), [], e0 :: es') ?_ (hM := by (show wkMem _ [_, _, _, ⟨bg, .row 1 (l ++ t) 0⟩]); rw [← ht]; (first | exact ⟨_, .refl _⟩ | exact wkMem.rfl' | exact ⟨_, .swap _ _ _⟩ | (repeat (first | exact wkMem.nil _ | exact wkMem.rfl' | exact wk_snoc _ _ _ | exact wk_fam (by assumption) _ _ _ | exact wk_famN (by assumption) _ _ _ | (apply wkMem.cons; (case' hl => (repeat (first | exact .here _ _ _ | apply Look.there)))) | apply wkMem.skip))))
                exact ok _ _ (fun h0 => by cases h0) (by omega)
              · (refine g0_ ?_; repeat ((first | refine n1_ fun b_ => ?_ | refine n2_ fun b_ => ?_ | refine n3_ fun b_ pre_ => ?_); refine g0_ ?_))
                refine jx_ (some (b_, t), [e0], es') ?_ (hM := by (show wkMem _ [_, _, _, ⟨bg, .row 1 (l ++ t) 0⟩]); rw [← ht]; (first | exact ⟨_, .refl _⟩ | exact wkMem.rfl' | exact ⟨_, .swap _ _ _⟩ | (repeat (first | exact wkMem.nil _ | exact wkMem.rfl' | exact wk_snoc _ _ _ | exact wk_fam (by assumption) _ _ _ | exact wk_famN (by assumption) _ _ _ | (apply wkMem.cons; (case' hl => (repeat (first | exact .here _ _ _ | apply Look.there)))) | apply wkMem.skip))))
                exact ok2 _ [] (fun h0 => by cases h0) (by omega)
          · have hpos : 0 < es.length := by
              rcases hpo with h0 | h0
              · cases h0
              · exact List.length_pos_iff.2 h0
            have hdrop : List.drop (pre.length + 1) (p0 :: pre ++ es) = es := List.drop_left' (by simp)
            have htake : List.take (pre.length + 1) (p0 :: pre ++ es) = p0 :: pre := List.take_left' (by simp)
            (refine g0_ ?_; repeat ((first | refine n1_ fun b_ => ?_ | refine n2_ fun b_ => ?_ | refine n3_ fun b_ pre_ => ?_); refine g0_ ?_))
            refine Draws11.tree ⟨16, [.new, .new, .new, .new, .new, .new, .new, .new, .new, .new, .new, .new, .turn, .skip, .skip, .skip], (.one 12 [.again, .keep, .keep, .keep, .keep, .keep, .keep, .keep, .keep, .keep, .keep, .keep, .keep, .new, .new, .turn] (.one 15 [.keep, .keep, .keep, .keep, .keep, .keep, .keep, .keep, .keep, .keep, .keep, .keep, .keep, .keep, .keep, .keep] .fin)), by decide +kernel, ?_⟩; (refine g0_ ?_; repeat ((first | refine n1_ fun b_ => ?_ | refine n2_ fun b_ => ?_ | refine n3_ fun b_ pre_ => ?_); refine g0_ ?_))
            refine ⟨_, (rowOwn_ok W bc (h * w) w 0 h (by rw [← hfl]; simpa using h0w) (by omega) (by omega) (by omega)).quiet, ?_⟩; (refine g0_ ?_; repeat ((first | refine n1_ fun b_ => ?_ | refine n2_ fun b_ => ?_ | refine n3_ fun b_ pre_ => ?_); refine g0_ ?_))
            refine ⟨_, cloneQ_cells W bc (0 * w) w L'.flatten (by omega) h0w (by omega) (by repeat (first | exact .here _ _ _ | apply Look.there)), ?_⟩
            (refine g0_ ?_; repeat ((first | refine n1_ fun b_ => ?_); refine g0_ ?_))
            refine n3k_ ?_ fun b_ => ?_
            · rw [hdrop, htake, hE]
              (refine g0_ ?_; repeat ((first | refine n1_ fun b_ => ?_ | refine n2_ fun b_ => ?_ | refine n3_ fun b_ pre_ => ?_); refine g0_ ?_))
              rw [show es.length + [((0, Operand.tmp 29).fst, PV.sl 4 (List.map encCell (List.take w (List.drop (0 * w) L'.flatten)))).snd].length = es'.length + 1 by rw [hel]; rfl]
              refine brec ?_; intro c_ h5; (try rw [h5]); cases c_ <;> replace h5 := nm_ h5
              · (refine g0_ ?_; repeat ((first | refine n1_ fun b_ => ?_ | refine n2_ fun b_ => ?_ | refine n3_ fun b_ pre_ => ?_); refine g0_ ?_))
                refine jx_ (none, (p0 :: pre), e0 :: es') ?_
                exact ok _ _ (fun h0 => hpf) (by omega)
              · (refine g0_ ?_; repeat ((first | refine n1_ fun b_ => ?_ | refine n2_ fun b_ => ?_ | refine n3_ fun b_ pre_ => ?_); refine g0_ ?_))
                rw [show (p0 :: pre) ++ e0 :: es' = ((p0 :: pre) ++ [e0]) ++ es' by simp, show ((p0 :: pre)).length + 1 = ((p0 :: pre) ++ [e0]).length by simp]
                refine jx_ (none, (p0 :: pre) ++ [e0], es') ?_
                exact ok2 _ _ (fun h0 => hpf) (by omega)
            · rw [hdrop, hE]
              (refine g0_ ?_; repeat ((first | refine n1_ fun b_ => ?_ | refine n2_ fun b_ => ?_ | refine n3_ fun b_ pre_ => ?_); refine g0_ ?_))
              rw [show es.length + [((0, Operand.tmp 29).fst, PV.sl 4 (List.map encCell (List.take w (List.drop (0 * w) L'.flatten)))).snd].length = es'.length + 1 by rw [hel]; rfl]
              refine brec ?_; intro c_ h5; (try rw [h5]); cases c_ <;> replace h5 := nm_ h5
              · (refine g0_ ?_; repeat ((first | refine n1_ fun b_ => ?_ | refine n2_ fun b_ => ?_ | refine n3_ fun b_ pre_ => ?_); refine g0_ ?_))
                refine jx_ (some (b_, t), [], e0 :: es') ?_ (hM := by (show wkMem _ [_, _, _, ⟨bg, .row 1 (l ++ t) 0⟩]); rw [← ht]; (first | exact ⟨_, .refl _⟩ | exact wkMem.rfl' | exact ⟨_, .swap _ _ _⟩ | (repeat (first | exact wkMem.nil _ | exact wkMem.rfl' | exact wk_snoc _ _ _ | exact wk_fam (by assumption) _ _ _ | exact wk_famN (by assumption) _ _ _ | (apply wkMem.cons; (case' hl => (repeat (first | exact .here _ _ _ | apply Look.there)))) | apply wkMem.skip))))
                exact ok _ _ (fun h0 => by cases h0) (by omega)
              · (refine g0_ ?_; repeat ((first | refine n1_ fun b_ => ?_ | refine n2_ fun b_ => ?_ | refine n3_ fun b_ pre_ => ?_); refine g0_ ?_))
                refine jx_ (some (b_, t), [e0], es') ?_ (hM := by (show wkMem _ [_, _, _, ⟨bg, .row 1 (l ++ t) 0⟩]); rw [← ht]; (first | exact ⟨_, .refl _⟩ | exact wkMem.rfl' | exact ⟨_, .swap _ _ _⟩ | (repeat (first | exact wkMem.nil _ | exact wkMem.rfl' | exact wk_snoc _ _ _ | exact wk_fam (by assumption) _ _ _ | exact wk_famN (by assumption) _ _ _ | (apply wkMem.cons; (case' hl => (repeat (first | exact .here _ _ _ | apply Look.there)))) | apply wkMem.skip))))
                exact ok2 _ [] (fun h0 => by cases h0) (by omega)
        · obtain _ | ⟨p0, pre⟩ := px
          · (refine g0_ ?_; repeat ((first | refine n1_ fun b_ => ?_ | refine n2_ fun b_ => ?_ | refine n3_ fun b_ pre_ => ?_); refine g0_ ?_))
            refine Draws11.tree ⟨16, [.new, .new, .new, .new, .new, .new, .new, .new, .new, .new, .new, .new, .turn, .skip, .skip, .skip], (.one 12 [.again, .keep, .keep, .keep, .keep, .keep, .keep, .keep, .keep, .keep, .keep, .keep, .keep, .new, .new, .turn] (.one 15 [.keep, .keep, .keep, .keep, .keep, .keep, .keep, .keep, .keep, .keep, .keep, .keep, .keep, .keep, .keep, .keep] .fin)), by decide +kernel, ?_⟩; (refine g0_ ?_; repeat ((first | refine n1_ fun b_ => ?_ | refine n2_ fun b_ => ?_ | refine n3_ fun b_ pre_ => ?_); refine g0_ ?_))
            refine ⟨_, (rowOwn_ok W bc (h * w) w 0 h (by rw [← hfl]; simpa using h0w) (by omega) (by omega) (by omega)).quiet, ?_⟩; (refine g0_ ?_; repeat ((first | refine n1_ fun b_ => ?_ | refine n2_ fun b_ => ?_ | refine n3_ fun b_ pre_ => ?_); refine g0_ ?_))
            refine ⟨_, cloneQ_cells W bc (0 * w) w L'.flatten (by omega) h0w (by omega) (by repeat (first | exact .here _ _ _ | apply Look.there)), ?_⟩
            (refine g0_ ?_; repeat ((first | refine n1_ fun b_ => ?_ | refine n2_ fun b_ => ?_ | refine n3_ fun b_ pre_ => ?_); refine g0_ ?_))
            rw [show ([] ++ es ++ [((0, Operand.tmp 29).fst, PV.sl 4 (List.map encCell (List.take w (List.drop (0 * w) L'.flatten)))).snd]) = e0 :: es' from hE]
            rw [show es.length + [((0, Operand.tmp 29).fst, PV.sl 4 (List.map encCell (List.take w (List.drop (0 * w) L'.flatten)))).snd].length = es'.length + 1 by rw [hel]; rfl]
            refine brec ?_; intro c_ h5; (try rw [h5]); cases c_ <;> replace h5 := nm_ h5
            · (refine g0_ ?_; repeat ((first | refine n1_ fun b_ => ?_ | refine n2_ fun b_ => ?_ | refine n3_ fun b_ pre_ => ?_); refine g0_ ?_))
              refine jx_ (some (b_, tk), [], e0 :: es') ?_
              exact ok _ _ (fun h0 => by cases h0) (by omega)
            · (refine g0_ ?_; repeat ((first | refine n1_ fun b_ => ?_ | refine n2_ fun b_ => ?_ | refine n3_ fun b_ pre_ => ?_); refine g0_ ?_))
              refine jx_ (some (b_, tk), [] ++ [e0], es') ?_
              exact ok2 _ _ (fun h0 => by cases h0) (by omega)
          · have hpos : 0 < es.length := by
              rcases hpo with h0 | h0
              · cases h0
              · exact List.length_pos_iff.2 h0
            have hdrop : List.drop (pre.length + 1) (p0 :: pre ++ es) = es := List.drop_left' (by simp)
            (refine g0_ ?_; repeat ((first | refine n1_ fun b_ => ?_ | refine n2_ fun b_ => ?_ | refine n3_ fun b_ pre_ => ?_); refine g0_ ?_))
            refine Draws11.tree ⟨16, [.new, .new, .new, .new, .new, .new, .new, .new, .new, .new, .new, .new, .turn, .skip, .skip, .skip], (.one 12 [.again, .keep, .keep, .keep, .keep, .keep, .keep, .keep, .keep, .keep, .keep, .keep, .keep, .new, .new, .turn] (.one 15 [.keep, .keep, .keep, .keep, .keep, .keep, .keep, .keep, .keep, .keep, .keep, .keep, .keep, .keep, .keep, .keep] .fin)), by decide +kernel, ?_⟩; (refine g0_ ?_; repeat ((first | refine n1_ fun b_ => ?_ | refine n2_ fun b_ => ?_ | refine n3_ fun b_ pre_ => ?_); refine g0_ ?_))
            refine ⟨_, (rowOwn_ok W bc (h * w) w 0 h (by rw [← hfl]; simpa using h0w) (by omega) (by omega) (by omega)).quiet, ?_⟩; (refine g0_ ?_; repeat ((first | refine n1_ fun b_ => ?_ | refine n2_ fun b_ => ?_ | refine n3_ fun b_ pre_ => ?_); refine g0_ ?_))
            refine ⟨_, cloneQ_cells W bc (0 * w) w L'.flatten (by omega) h0w (by omega) (by repeat (first | exact .here _ _ _ | apply Look.there)), ?_⟩
            (refine g0_ ?_; repeat ((first | refine n1_ fun b_ => ?_ | refine n2_ fun b_ => ?_ | refine n3_ fun b_ pre_ => ?_); refine g0_ ?_))
            rw [hdrop, hE]
            rw [show es.length + [((0, Operand.tmp 29).fst, PV.sl 4 (List.map encCell (List.take w (List.drop (0 * w) L'.flatten)))).snd].length = es'.length + 1 by rw [hel]; rfl]
            refine brec ?_; intro c_ h5; (try rw [h5]); cases c_ <;> replace h5 := nm_ h5
            · (refine g0_ ?_; repeat ((first | refine n1_ fun b_ => ?_ | refine n2_ fun b_ => ?_ | refine n3_ fun b_ pre_ => ?_); refine g0_ ?_))
              refine jx_ (some (b_, tk), pre_, e0 :: es') ?_
              exact ok _ _ (fun h0 => by cases h0) (by omega)
            · (refine g0_ ?_; repeat ((first | refine n1_ fun b_ => ?_ | refine n2_ fun b_ => ?_ | refine n3_ fun b_ pre_ => ?_); refine g0_ ?_))
              rw [show pre_ ++ e0 :: es' = (pre_ ++ [e0]) ++ es' by simp, show (pre_).length + 1 = (pre_ ++ [e0]).length by simp]
              refine jx_ (some (b_, tk), pre_ ++ [e0], es') ?_
              exact ok2 _ _ (fun h0 => by cases h0) (by omega)
    rintro x2 hx2
    (refine g0_ ?_; repeat ((first | refine n1_ fun b_ => ?_ | refine n2_ fun b_ => ?_ | refine n3_ fun b_ pre_ => ?_); refine g0_ ?_))
    refine headT_ (head_ ?_); (refine g0_ ?_; repeat ((first | refine n1_ fun b_ => ?_ | refine n2_ fun b_ => ?_ | refine n3_ fun b_ pre_ => ?_); refine g0_ ?_))
    refine need.mk (by rw [List.length_map, hfl, Nat.zero_add]; exact seg_le hb2 hb1) ?_
    (refine g0_ ?_; repeat ((first | refine n1_ fun b_ => ?_ | refine n2_ fun b_ => ?_ | refine n3_ fun b_ pre_ => ?_); refine g0_ ?_))
    refine need.mk ⟨by rw [List.length_map, hfl, Nat.zero_add]; exact seg_le hb3 (Nat.le_refl _), ?_, by omega⟩ ?_
    · rw [← List.map_drop, ← List.map_take]; exact cells_all _
    simp only [Nat.zero_add]
    rw [up_copy f' htb hbh]
    have f2' := f'.mid htb hbh
    obtain ⟨row, hrow, hrl⟩ := f2'.at (y := bottom) (by omega)
    have hcl := hck (gonSV bg x2) f2' hrow
    have e2 : (midR top bottom L').set bottom (clearR ba 0 w row) = upR ba w top bottom L' := by rw [clear_all ba (by omega), hrl]; rfl
    rw [e2] at hcl
    (refine g0_ ?_; repeat ((first | refine n1_ fun b_ => ?_ | refine n2_ fun b_ => ?_ | refine n3_ fun b_ pre_ => ?_); refine g0_ ?_))
    refine headT_ (Draws.head ⟨10, by decide +kernel, ?_⟩); (refine g0_ ?_; repeat ((first | refine n1_ fun b_ => ?_ | refine n2_ fun b_ => ?_ | refine n3_ fun b_ pre_ => ?_); refine g0_ ?_))
    refine ACalls.lend hcl (r := gonSM bg l x2) (by first | exact .refl _ | exact .swap _ _ _) ?_
    rintro _ -
    (refine g0_ ?_; repeat ((first | refine n1_ fun b_ => ?_ | refine n2_ fun b_ => ?_ | refine n3_ fun b_ pre_ => ?_); refine g0_ ?_))
    refine nx_ (i + 1, upR ba w top bottom L', x2) ?_ ?_ (hM := wkMem.cons (.here _ _ _) (wkMem.cons (.here _ _ _) wkMem.rfl'))
    · refine ⟨f'.up htb hbh ba, by omega, ?_, hx2⟩
      rw [← hit, show K - i = (K - (i + 1)) + 1 by omega, iterF]
    · show K - (i + 1) < K - i
      omega
end Go.Eng.YtphoefglfbifdaaDoor
end
