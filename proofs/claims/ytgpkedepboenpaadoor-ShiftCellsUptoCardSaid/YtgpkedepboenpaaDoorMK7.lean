/- Texts put together: Dsk11. -/
import Derived.Test.YtgpkedepboenpaaDoorMK1
import Derived.Test.YtgpkedepboenpaaDoorMW8
import Derived.Test.YtgpkedepboenpaaDoorMG1
import Derived.Test.YtgpkedepboenpaaDoorMG2
/- A desk's rows: blank, empty, Wipe, line. -/
section
namespace Go.Eng.YtgpkedepboenpaaDoor
open Go Go.Eng Go.Proofs
variable (W : World)
set_option linter.unusedSimpArgs false
set_option maxRecDepth 100000
set_option linter.unusedVariables false
set_option maxHeartbeats 8000000
/-- The memory of a desk, and of its rows. -/
abbrev dM (d : Nat) (cv tv gv : PV) (bo : Nat) (l : Fam) (s : Scr) : Mem := [dskB d cv tv gv (.rsl bo 1 0 l.length) s] ++ (⟨bo, .row 1 (l.map (rowP 4)) 0⟩ :: (famM 4 encCell l ++ []))
theorem dblank_ok (d : Nat) (cv tv gv lv : PV) (s : Scr) : ACalls Tryd.prog W 135 [.bref d 0] [dskB d cv tv gv lv s] (Gives (fun _ : Unit => encCell (blankB s.look.back)) (fun _ => [dskB d cv tv gv lv s]) (fun _ => True)) := by
  obtain ⟨⟨gw, gh, cs⟩, X, Y, late, ⟨fo, ba, bi⟩, tp, bo, modes, tabs, kx, ky, ⟨f2, b2, bi2⟩, km, last, title, gone⟩ := s
  rw [dskB_eq]
  refine acalls_of_vc (DL_ok (by decide)) Tryd.func135 rfl (by decide) (by decide) rfl ?_
  (refine g0_ ?_; repeat ((first | refine n1_ fun b_ => ?_ | refine n2_ fun b_ => ?_ | refine n3_ fun b_ pre_ => ?_ | refine Nat1.mk fun q_ hq_ => ?_ | refine em_ fun x_ hx_ => ?_ | refine Elem1.mk fun e_ he_ => ?_); refine g0_ ?_))
  exact ⟨(), trivial, rfl, by (first | exact ⟨_, .refl _⟩ | exact wkMem.rfl' | exact ⟨_, .swap _ _ _⟩ | (repeat (first | exact wkMem.nil _ | exact wkMem.rfl' | exact wk_snoc _ _ _ | exact wk_fam (by assumption) _ _ _ | exact wk_famN (by assumption) _ _ _ | (apply wkMem.cons; (case' hl => (repeat (first | exact .here _ _ _ | apply Look.there)))) | apply wkMem.skip)))⟩
theorem dblank_q (d : Nat) (cv tv gv lv : PV) (s : Scr) (ρ : Mem) : Quiet Tryd.prog W 135 [.bref d 0] ([dskB d cv tv gv lv s] ++ ρ) (encCell (blankB s.look.back)) := quiet_of W (dblank_ok W d cv tv gv lv s) (ρ := ρ) (.refl _)
theorem dwipe_ok (d : Nat) (cv tv gv : PV) (bo : Nat) (l : Fam) (s : Scr) {w : Nat} (hw : s.g.w = w) (w1 : 1 ≤ w) (w2 : w ≤ 120) (y x t : Nat) (p : Nat × List Cell) (hp : l[y]? = some p) (hpl : p.2.length = w) (hl : l.length ≤ 60) (hx : x ≤ 10000) (ht : t ≤ 10000) :
    ACalls Tryd.prog W 132 [.bref d 0, .int .i64 y, .int .i64 x, .int .i64 t] (dM d cv tv gv bo l s)
      (Gives (fun _ : Nat => .tup []) (fun b' => dM d cv tv gv bo (l.set y (b', mendL (fillRow (blankB s.look.back) x t p.2))) s) (fun _ => True)) := by
  have hyl := lt_of_at hp
  obtain ⟨B, hB⟩ : ∃ B, B = blankB s.look.back := ⟨_, rfl⟩
  have hbl := dblank_q W d cv tv gv (.rsl bo 1 0 l.length) s
  rw [← hB] at *
  refine acalls_of_vc (DL_ok (by decide)) Tryd.func132 rfl (by decide) (by decide) rfl ?_
  (refine g0_ ?_; repeat ((first | refine n1_ fun b_ => ?_ | refine n2_ fun b_ => ?_ | refine n3_ fun b_ pre_ => ?_ | refine Nat1.mk fun q_ hq_ => ?_ | refine em_ fun x_ hx_ => ?_ | refine Elem1.mk fun e_ he_ => ?_); refine g0_ ?_))
  rw [if_neg (show ¬ ((x : Int) < 0) by omega)]
  refine' loopI (α := Nat × Fam) (fun (i, l1) => [(8, .int .i64 i)]) [(0, _), (1, _), (3, _)] (fun (i, l1) => [dskB d cv tv gv (.rsl bo 1 0 l.length) s] ++ (⟨bo, .row 1 (l.map (rowP 4)) 0⟩ :: (famM 4 encCell l1 ++ []))) (fun (i, l1) => x ≤ i ∧ l1 = l.set y (p.1, upto (fillP B x t) i p.2)) (fun (i, l1) => t - i) (x, l) ?_ ?_
  · refine ⟨Nat.le_refl _, ?_⟩
    rw [upto_from fun k d _ hk => by rw [fillP, if_neg]; simp [inB]; omega]
    exact (set_self hp).symm
  rintro ⟨i, l1⟩ ⟨hi, rfl⟩
  have hq := set_at hp (p.1, upto (fillP B x t) i p.2)
  have hul := upto_len (fillP B x t) i p.2
  have hp0 : l[0 + y]? = some p := by rwa [Nat.zero_add]
  (refine g0_ ?_; repeat ((first | refine n1_ fun b_ => ?_ | refine n2_ fun b_ => ?_ | refine n3_ fun b_ pre_ => ?_ | refine Nat1.mk fun q_ hq_ => ?_ | refine em_ fun x_ hx_ => ?_ | refine Elem1.mk fun e_ he_ => ?_); refine g0_ ?_))
  rw [hw]
  simp only [ifmin]
  by_cases h1 : i < t ∧ i < w
  · obtain ⟨d', hd⟩ : ∃ d', p.2[i]? = some d' := ⟨_, List.getElem?_eq_getElem (by omega)⟩
    have hd' : (upto (fillP B x t) i p.2)[0 + i]? = some d' := by rw [Nat.zero_add]; exact upto_at _ hd
    have hs := upto_set (p := fillP B x t) hd
    rw [show fillP B x t i d' = B by rw [fillP, if_pos]; simp [inB]; omega] at hs
    (refine g1_ ?_; repeat ((first | refine n1_ fun b_ => ?_ | refine n2_ fun b_ => ?_ | refine n3_ fun b_ pre_ => ?_ | refine Nat1.mk fun q_ hq_ => ?_ | refine em_ fun x_ hx_ => ?_ | refine Elem1.mk fun e_ he_ => ?_); refine g1_ ?_))
    refine headL_ (head_ ?_); (refine g0_ ?_; repeat ((first | refine n1_ fun b_ => ?_ | refine n2_ fun b_ => ?_ | refine n3_ fun b_ pre_ => ?_ | refine Nat1.mk fun q_ hq_ => ?_ | refine em_ fun x_ hx_ => ?_ | refine Elem1.mk fun e_ he_ => ?_); refine g0_ ?_))
    refine ⟨_, hbl _, ?_⟩
    (refine g0_ ?_; repeat ((first | refine n1_ fun b_ => ?_ | refine n2_ fun b_ => ?_ | refine n3_ fun b_ pre_ => ?_ | refine Nat1.mk fun q_ hq_ => ?_ | refine em_ fun x_ hx_ => ?_ | refine Elem1.mk fun e_ he_ => ?_); refine g0_ ?_))
    dsimp only
    rw [set_enc, ← hs]
    refine nx_ (i + 1, (l.set y (p.1, upto (fillP B x t) i p.2)).set y (p.1, upto (fillP B x t) (i + 1) p.2)) ?_ ?_
    · exact ⟨by omega, by rw [List.set_set]⟩
    · show t - (i + 1) < t - i
      omega
  · have hR : upto (fillP B x t) i p.2 = fillRow B x t p.2 := by
      rw [upto_all fun k d' hk hk2 => ?_]
      · rfl
      · have := lt_of_at hk
        rw [fillP, if_neg]
        simp only [inB, Bool.and_eq_true, decide_eq_true_eq]
        omega
    rw [← hR]
    generalize upto (fillP B x t) i p.2 = R at *
    (refine g1_ ?_; repeat ((first | refine n1_ fun b_ => ?_ | refine n2_ fun b_ => ?_ | refine n3_ fun b_ pre_ => ?_ | refine Nat1.mk fun q_ hq_ => ?_ | refine em_ fun x_ hx_ => ?_ | refine Elem1.mk fun e_ he_ => ?_); refine g1_ ?_))
    refine Draws10.chain ⟨13, [.new, .new, .new, .new, .new, .new, .new, .new, .new, .new, .new, .new, .turn], [(12, [.again, .again, .again, .again, .again, .keep, .keep, .keep, .keep, .keep, .keep, .keep, .keep])], by decide +kernel, ?_⟩; (refine g0_ ?_; repeat ((first | refine n1_ fun b_ => ?_ | refine n2_ fun b_ => ?_ | refine n3_ fun b_ pre_ => ?_ | refine Nat1.mk fun q_ hq_ => ?_ | refine em_ fun x_ hx_ => ?_ | refine Elem1.mk fun e_ he_ => ?_); refine g0_ ?_))
    refine mendFam_ok W hq (by rintro rfl; simp at hul; omega) (by show R.length ≤ _; omega) [_, _] hul.symm ?_
    intro b'
    (refine g0_ ?_; repeat ((first | refine n1_ fun b_ => ?_ | refine n2_ fun b_ => ?_ | refine n3_ fun b_ pre_ => ?_ | refine Nat1.mk fun q_ hq_ => ?_ | refine em_ fun x_ hx_ => ?_ | refine Elem1.mk fun e_ he_ => ?_); refine g0_ ?_))
    dsimp only
    rw [show (l.map (rowP 4)).set (0 + y) (.rsl b' 4 0 p.2.length) = ((l.set y (p.1, R)).set y (b', mendL R)).map (rowP 4) by rw [Nat.zero_add, List.set_set, List.map_set, rowP, mendL_len, hul]]
    refine ⟨b', trivial, rfl, ?_⟩
    show wkMem _ ([dskB d cv tv gv (.rsl bo 1 0 (l.set y (b', mendL R)).length) s] ++ (⟨bo, .row 1 ((l.set y (b', mendL R)).map (rowP 4)) 0⟩ :: (famM 4 encCell (l.set y (b', mendL R)) ++ [])))
    rw [List.length_set, show l.set y (b', mendL R) = (l.set y (p.1, R)).set y (b', mendL R) by rw [List.set_set]]
    (first | exact ⟨_, .refl _⟩ | exact wkMem.rfl' | exact ⟨_, .swap _ _ _⟩ | (repeat (first | exact wkMem.nil _ | exact wkMem.rfl' | exact wk_snoc _ _ _ | exact wk_fam (by assumption) _ _ _ | exact wk_famN (by assumption) _ _ _ | (apply wkMem.cons; (case' hl => (repeat (first | exact .here _ _ _ | apply Look.there)))) | apply wkMem.skip)))
theorem repC_copy (c : Cell) (n k : Nat) (hk : k ≤ n) {cs : List Cell} (hcs : cs = List.replicate k c ++ List.replicate (n - k) zeroC) : cs.take k ++ (cs.take k).take (n - k) ++ cs.drop (k + min (n - k) k) = List.replicate (k + min (n - k) k) c ++ List.replicate (n - (k + min (n - k) k)) zeroC := by
  subst hcs
  have e1 : (List.replicate k c ++ List.replicate (n - k) zeroC).take k = List.replicate k c := by rw [List.take_left' (by simp)]
  rw [e1, List.take_replicate, ← List.replicate_append_replicate (n := k) (m := min (n - k) k)]
  congr 1
  rw [List.drop_append, List.drop_of_length_le (by simp), List.nil_append, List.length_replicate, List.drop_replicate]
  congr 1
  omega
theorem repeatC_ok (c : Cell) (n : Nat) (h1 : 1 ≤ n) (hn : n ≤ 10000) : ACalls Tryd.prog W 134 [.sl 4 [encCell c], .int .i64 n] [] (GivesRow 4 ((List.replicate n c).map encCell)) := by
  refine acalls_of_vc (drawOk W) Tryd.func134 rfl (by decide) (by decide) rfl ?_
  (refine g0_ ?_; repeat ((first | refine n1_ fun b_ => ?_ | refine n2_ fun b_ => ?_ | refine n3_ fun b_ pre_ => ?_ | refine Nat1.mk fun q_ hq_ => ?_ | refine em_ fun x_ hx_ => ?_ | refine Elem1.mk fun e_ he_ => ?_); refine g0_ ?_))
  rw [show IntKind.u64.wrap ([encCell c].length : Nat) = 1 by rfl, show IntKind.u64.wrap (n : Int) = n by rw [IntKind.wrap_u64]; omega]
  refine (mul_ok W n hn).use ?_; (refine g0_ ?_; repeat ((first | refine n1_ fun b_ => ?_ | refine n2_ fun b_ => ?_ | refine n3_ fun b_ pre_ => ?_ | refine Nat1.mk fun q_ hq_ => ?_ | refine em_ fun x_ hx_ => ?_ | refine Elem1.mk fun e_ he_ => ?_); refine g0_ ?_))
  have h2 : ¬ (9223372036854775807 < (n : Int)) := by omega
  (refine g0_ ?_; repeat ((first | refine n1_ fun b_ => ?_ | refine n2_ fun b_ => ?_ | refine n3_ fun b_ pre_ => ?_ | refine Nat1.mk fun q_ hq_ => ?_ | refine em_ fun x_ hx_ => ?_ | refine Elem1.mk fun e_ he_ => ?_); refine g0_ ?_))
  (refine g1_ ?_; repeat ((first | refine n1_ fun b_ => ?_ | refine n2_ fun b_ => ?_ | refine n3_ fun b_ pre_ => ?_ | refine Nat1.mk fun q_ hq_ => ?_ | refine em_ fun x_ hx_ => ?_ | refine Elem1.mk fun e_ he_ => ?_); refine g1_ ?_))
  rw [rep_zero]
  have hcb : cellsB (encCell c) = true := by rfl
  (refine g0_ ?_; repeat ((first | refine n1_ fun b_ => ?_ | refine n2_ fun b_ => ?_ | refine n3_ fun b_ pre_ => ?_ | refine Nat1.mk fun q_ hq_ => ?_ | refine em_ fun x_ hx_ => ?_ | refine Elem1.mk fun e_ he_ => ?_); refine g0_ ?_))
  have e1 : min n [encCell c].length = 1 := by rw [List.length_singleton]; omega
  rw [e1]
  have e2 : List.take n [encCell c] = (List.replicate 1 c).map encCell := by rw [List.take_of_length_le (by rw [List.length_singleton]; omega)]; rfl
  have e3 : List.drop (0 + 1) ((List.replicate n zeroC).map encCell) = (List.replicate (n - 1) zeroC).map encCell := by rw [← List.map_drop, List.drop_replicate]
  rw [e2, e3, List.take_zero, List.nil_append, ← List.map_append]
  refine' loopI (α := Nat × (List Cell)) (fun (k, cs) => [(8, .int .i64 k)]) [(7, _)] (fun (k, cs) => [⟨b_, .row 4 (cs.map encCell) 0⟩]) (fun (k, cs) => 1 ≤ k ∧ k ≤ n ∧ cs = List.replicate k c ++ List.replicate (n - k) zeroC) (fun (k, cs) => n - k) (1, List.replicate 1 c ++ List.replicate (n - 1) zeroC) ?_ ?_
  · exact ⟨Nat.le_refl _, h1, rfl⟩
  rintro ⟨k, cs⟩ ⟨hk1, hk2, hcs⟩
  have hcl : cs.length = n := by rw [hcs]; simp; omega
  (refine g0_ ?_; repeat ((first | refine n1_ fun b_ => ?_ | refine n2_ fun b_ => ?_ | refine n3_ fun b_ pre_ => ?_ | refine Nat1.mk fun q_ hq_ => ?_ | refine em_ fun x_ hx_ => ?_ | refine Elem1.mk fun e_ he_ => ?_); refine g0_ ?_))
  refine brec ?_; intro c_ h3; (try rw [h3]); cases c_ <;> replace h3 := nm_ h3
  · have : k = n := by omega
    subst this
    rw [Nat.sub_self, List.replicate_zero, List.append_nil] at hcs
    (refine g0_ ?_; repeat ((first | refine n1_ fun b_ => ?_ | refine n2_ fun b_ => ?_ | refine n3_ fun b_ pre_ => ?_ | refine Nat1.mk fun q_ hq_ => ?_ | refine em_ fun x_ hx_ => ?_ | refine Elem1.mk fun e_ he_ => ?_); refine g0_ ?_))
    rw [← hcs]
    exact GivesRow.mk _ (by simp [hcl]) wkMem.rfl'
  · have hrc := repC_copy c n k hk2 hcs
    have hca := cells_all (cs.take k)
    (refine g0_ ?_; repeat ((first | refine n1_ fun b_ => ?_ | refine n2_ fun b_ => ?_ | refine n3_ fun b_ pre_ => ?_ | refine Nat1.mk fun q_ hq_ => ?_ | refine em_ fun x_ hx_ => ?_ | refine Elem1.mk fun e_ he_ => ?_); refine g0_ ?_))
    have hlen2 : (cs.map encCell).length = n := by simp [hcl]
    have hca2 : (List.take (k - 0) (List.drop (0 + 0) (cs.map encCell))).all cellsB = true := by simpa [List.map_take] using hca
    have hml : (List.take (k - 0) (List.drop (0 + 0) (cs.map encCell))).length = k := by simp; omega
    have hrow : List.take (0 + k) (cs.map encCell) ++ List.take (n - k) (List.take (k - 0) (List.drop (0 + 0) (cs.map encCell))) ++ List.drop (0 + k + min (n - k) k) (cs.map encCell) = (List.replicate (k + min (n - k) k) c ++ List.replicate (n - (k + min (n - k) k)) zeroC).map encCell := by
      rw [← hrc]; simp [List.map_take, List.map_drop]
    refine Draws.free ⟨7, by decide +kernel, ?_⟩; (refine g0_ ?_; repeat ((first | refine n1_ fun b_ => ?_ | refine n2_ fun b_ => ?_ | refine n3_ fun b_ pre_ => ?_ | refine Nat1.mk fun q_ hq_ => ?_ | refine em_ fun x_ hx_ => ?_ | refine Elem1.mk fun e_ he_ => ?_); refine g0_ ?_))
    refine need.mk ⟨by omega, hca2, by omega⟩ ?_
    dsimp only
    rw [hml]
    (refine g0_ ?_; repeat ((first | refine n1_ fun b_ => ?_ | refine n2_ fun b_ => ?_ | refine n3_ fun b_ pre_ => ?_ | refine Nat1.mk fun q_ hq_ => ?_ | refine em_ fun x_ hx_ => ?_ | refine Elem1.mk fun e_ he_ => ?_); refine g0_ ?_))
    rw [hrow]
    refine nx_ (k + min (n - k) k, List.replicate (k + min (n - k) k) c ++ List.replicate (n - (k + min (n - k) k)) zeroC) ?_ ?_
    · exact ⟨by omega, by omega, rfl⟩
    · ((try dsimp only); (try simp only [List.length_drop, List.length_take, List.length_append, List.length_cons, List.length_nil, List.length_map] at *); omega)
theorem dempty_ok (d : Nat) (cv tv gv lv : PV) (s : Scr) {w : Nat} (hw : s.g.w = w) (w1 : 1 ≤ w) (w2 : w ≤ 120) : ACalls Tryd.prog W 131 [.bref d 0] [dskB d cv tv gv lv s]
    (Gives (fun b : Nat => .rsl b 4 0 w) (fun b => [dskB d cv tv gv lv s, ⟨b, .row 4 ((List.replicate w (blankB s.look.back)).map encCell) 0⟩]) (fun _ => True)) := by
  have hbl := dblank_q W d cv tv gv lv s
  have hre := repeatC_ok W (blankB s.look.back) w w1 (by omega)
  refine acalls_of_vc (DL_ok (by decide)) Tryd.func131 rfl (by decide) (by decide) rfl ?_
  (refine g0_ ?_; repeat ((first | refine n1_ fun b_ => ?_ | refine n2_ fun b_ => ?_ | refine n3_ fun b_ pre_ => ?_ | refine Nat1.mk fun q_ hq_ => ?_ | refine em_ fun x_ hx_ => ?_ | refine Elem1.mk fun e_ he_ => ?_); refine g0_ ?_))
  refine Draws10.chain ⟨10, [.new, .new, .new, .new, .new, .new, .new, .new, .new, .turn], [(9, [.keep, .keep, .keep, .keep, .keep, .keep, .keep, .keep, .keep, .keep])], by decide +kernel, ?_⟩; (refine g0_ ?_; repeat ((first | refine n1_ fun b_ => ?_ | refine n2_ fun b_ => ?_ | refine n3_ fun b_ pre_ => ?_ | refine Nat1.mk fun q_ hq_ => ?_ | refine em_ fun x_ hx_ => ?_ | refine Elem1.mk fun e_ he_ => ?_); refine g0_ ?_))
  refine ⟨_, hbl [], ?_⟩
  (refine g0_ ?_; repeat ((first | refine n1_ fun b_ => ?_ | refine n2_ fun b_ => ?_ | refine n3_ fun b_ pre_ => ?_ | refine Nat1.mk fun q_ hq_ => ?_ | refine em_ fun x_ hx_ => ?_ | refine Elem1.mk fun e_ he_ => ?_); refine g0_ ?_))
  rw [hw]
  refine ACalls.give hre ?_
  rintro b -
  (refine g0_ ?_; repeat ((first | refine n1_ fun b_ => ?_ | refine n2_ fun b_ => ?_ | refine n3_ fun b_ pre_ => ?_ | refine Nat1.mk fun q_ hq_ => ?_ | refine em_ fun x_ hx_ => ?_ | refine Elem1.mk fun e_ he_ => ?_); refine g0_ ?_))
  exact ⟨b, trivial, by simp, by (first | exact ⟨_, .refl _⟩ | exact wkMem.rfl' | exact ⟨_, .swap _ _ _⟩ | (repeat (first | exact wkMem.nil _ | exact wkMem.rfl' | exact wk_snoc _ _ _ | exact wk_fam (by assumption) _ _ _ | exact wk_famN (by assumption) _ _ _ | (apply wkMem.cons; (case' hl => (repeat (first | exact .here _ _ _ | apply Look.there)))) | apply wkMem.skip)))⟩
theorem fillRow_ext (c : Cell) (a b b' : Int) (row : List Cell) (h1 : (row.length : Int) ≤ b) (h2 : (row.length : Int) ≤ b') : fillRow c a b row = fillRow c a b' row := by
  refine List.ext_getElem? fun k => ?_
  rw [fillRow, fillRow, List.getElem?_mapIdx, List.getElem?_mapIdx]
  cases hk : row[k]? with
  | none => rfl
  | some e =>
    have := lt_of_at hk
    have e1 : inB a b k = inB a b' k := by
      unfold inB
      rw [Bool.eq_iff_iff]
      simp only [Bool.and_eq_true, decide_eq_true_eq]
      omega
    simp only [Option.map_some, Option.some.injEq]
    rw [fillP, fillP, e1]
theorem fam_set {l : Fam} {y : Nat} (b : Nat) (r : List Cell) : (l.set y (b, r)).map Prod.snd = (l.map Prod.snd).set y r := by rw [List.map_set]
/-- The desk's rows, one of them wiped in part. -/
theorem dline_ok (d : Nat) (cv tv gv : PV) (bo : Nat) (l : Fam) (s : Scr) {w h : Nat} (f : RowsOk (l.map Prod.snd) w h) (hw : s.g.w = w) (hx : 0 ≤ s.x ∧ s.x < w) (hy : 0 ≤ s.y ∧ s.y < h) (kind : Int) {row : List Cell} (hrow : (l.map Prod.snd)[s.y.toNat]? = some row) :
    ACalls Tryd.prog W 130 [.bref d 0, .int .i64 kind] (dM d cv tv gv bo l s)
      (Gives (fun _ : Fam => .tup []) (fun l' => dM d cv tv gv bo l' s) (fun l' => l'.map Prod.snd = (l.map Prod.snd).set s.y.toNat (lineR s kind row))) := by
  obtain ⟨y, hy'⟩ := Int.eq_ofNat_of_zero_le hy.1
  obtain ⟨x, hx'⟩ := Int.eq_ofNat_of_zero_le hx.1
  have hyN : s.y.toNat = y := by omega
  rw [hyN] at hrow ⊢
  obtain ⟨p, hp, rfl⟩ : ∃ p, l[y]? = some p ∧ p.2 = row := by
    rw [List.getElem?_map] at hrow
    obtain ⟨p, hp, rfl⟩ := Option.map_eq_some_iff.1 hrow
    exact ⟨p, hp, rfl⟩
  have hll : l.length = h := by have := f.len; rwa [List.length_map] at this
  have hpl : p.2.length = w := f.row _ (List.mem_map.2 ⟨p, List.mem_of_getElem? hp, rfl⟩)
  have hw2 := f.w2
  have hh2 := f.h2
  have hwp := fun (x t : Nat) (hx : x ≤ 10000) (ht : t ≤ 10000) => dwipe_ok W d cv tv gv bo l s hw f.w1 f.w2 y x t p hp hpl (by omega) hx ht
  have hlR : lineR s kind p.2 = if kind ≤ 0 then mendL (fillRow (blankB s.look.back) x w p.2) else if kind = 1 then mendL (fillRow (blankB s.look.back) (0 : Nat) (x + 1 : Nat) p.2) else if kind = 2 then mendL (fillRow (blankB s.look.back) (0 : Nat) w p.2) else p.2 := by
    rw [lineR, clearR, clearR, clearR, hx', hw, Int.toNat_natCast, Int.toNat_natCast, Nat.zero_add, Nat.zero_add]
    rw [fillRow_ext _ (x : Int) ((x + w : Nat) : Int) w p.2 (by omega) (by omega)]
  rw [hlR]
  by_cases k0 : kind ≤ 0
  · rw [if_pos k0]
    have hc := hwp x w (by omega) (by omega)
    refine acalls_of_vc (DL_ok (by decide)) Tryd.func130 rfl (by decide) (by decide) rfl ?_
    (refine g0_ ?_; repeat ((first | refine n1_ fun b_ => ?_ | refine n2_ fun b_ => ?_ | refine n3_ fun b_ pre_ => ?_ | refine Nat1.mk fun q_ hq_ => ?_ | refine em_ fun x_ hx_ => ?_ | refine Elem1.mk fun e_ he_ => ?_); refine g0_ ?_))
    (refine g1_ ?_; repeat ((first | refine n1_ fun b_ => ?_ | refine n2_ fun b_ => ?_ | refine n3_ fun b_ pre_ => ?_ | refine Nat1.mk fun q_ hq_ => ?_ | refine em_ fun x_ hx_ => ?_ | refine Elem1.mk fun e_ he_ => ?_); refine g1_ ?_))
    refine headL_ (Draws.head ⟨17, by decide +kernel, ?_⟩); (refine g0_ ?_; repeat ((first | refine n1_ fun b_ => ?_ | refine n2_ fun b_ => ?_ | refine n3_ fun b_ pre_ => ?_ | refine Nat1.mk fun q_ hq_ => ?_ | refine em_ fun x_ hx_ => ?_ | refine Elem1.mk fun e_ he_ => ?_); refine g0_ ?_))
    rw [hw, hx', hy']
    refine ACalls.lend hc (r := []) (by rw [List.append_nil]) ?_
    rintro b' -
    rw [List.append_nil]
    (refine g0_ ?_; repeat ((first | refine n1_ fun b_ => ?_ | refine n2_ fun b_ => ?_ | refine n3_ fun b_ pre_ => ?_ | refine Nat1.mk fun q_ hq_ => ?_ | refine em_ fun x_ hx_ => ?_ | refine Elem1.mk fun e_ he_ => ?_); refine g0_ ?_))
    exact ⟨_, fam_set _ _, rfl, wkMem.rfl'⟩
  rw [if_neg k0]
  by_cases k1 : kind = 1
  · rw [if_pos k1]
    have hc := hwp 0 (x + 1) (by omega) (by omega)
    refine acalls_of_vc (DL_ok (by decide)) Tryd.func130 rfl (by decide) (by decide) rfl ?_
    (refine g0_ ?_; repeat ((first | refine n1_ fun b_ => ?_ | refine n2_ fun b_ => ?_ | refine n3_ fun b_ pre_ => ?_ | refine Nat1.mk fun q_ hq_ => ?_ | refine em_ fun x_ hx_ => ?_ | refine Elem1.mk fun e_ he_ => ?_); refine g0_ ?_))
    (refine g1_ ?_; repeat ((first | refine n1_ fun b_ => ?_ | refine n2_ fun b_ => ?_ | refine n3_ fun b_ pre_ => ?_ | refine Nat1.mk fun q_ hq_ => ?_ | refine em_ fun x_ hx_ => ?_ | refine Elem1.mk fun e_ he_ => ?_); refine g1_ ?_))
    refine headL_ (Draws.head ⟨12, by decide +kernel, ?_⟩); (refine g0_ ?_; repeat ((first | refine n1_ fun b_ => ?_ | refine n2_ fun b_ => ?_ | refine n3_ fun b_ pre_ => ?_ | refine Nat1.mk fun q_ hq_ => ?_ | refine em_ fun x_ hx_ => ?_ | refine Elem1.mk fun e_ he_ => ?_); refine g0_ ?_))
    rw [hx', hy']
    refine ACalls.lend hc (r := []) (by rw [List.append_nil]) ?_
    rintro b' -
    rw [List.append_nil]
    (refine g0_ ?_; repeat ((first | refine n1_ fun b_ => ?_ | refine n2_ fun b_ => ?_ | refine n3_ fun b_ pre_ => ?_ | refine Nat1.mk fun q_ hq_ => ?_ | refine em_ fun x_ hx_ => ?_ | refine Elem1.mk fun e_ he_ => ?_); refine g0_ ?_))
    exact ⟨_, fam_set _ _, rfl, wkMem.rfl'⟩
  rw [if_neg k1]
  by_cases k2 : kind = 2
  · rw [if_pos k2]
    have hc := hwp 0 w (by omega) (by omega)
    refine acalls_of_vc (DL_ok (by decide)) Tryd.func130 rfl (by decide) (by decide) rfl ?_
    (refine g0_ ?_; repeat ((first | refine n1_ fun b_ => ?_ | refine n2_ fun b_ => ?_ | refine n3_ fun b_ pre_ => ?_ | refine Nat1.mk fun q_ hq_ => ?_ | refine em_ fun x_ hx_ => ?_ | refine Elem1.mk fun e_ he_ => ?_); refine g0_ ?_))
    (refine g1_ ?_; repeat ((first | refine n1_ fun b_ => ?_ | refine n2_ fun b_ => ?_ | refine n3_ fun b_ pre_ => ?_ | refine Nat1.mk fun q_ hq_ => ?_ | refine em_ fun x_ hx_ => ?_ | refine Elem1.mk fun e_ he_ => ?_); refine g1_ ?_))
    refine headL_ (Draws.head ⟨12, by decide +kernel, ?_⟩); (refine g0_ ?_; repeat ((first | refine n1_ fun b_ => ?_ | refine n2_ fun b_ => ?_ | refine n3_ fun b_ pre_ => ?_ | refine Nat1.mk fun q_ hq_ => ?_ | refine em_ fun x_ hx_ => ?_ | refine Elem1.mk fun e_ he_ => ?_); refine g0_ ?_))
    rw [hw, hy']
    refine ACalls.lend hc (r := []) (by rw [List.append_nil]) ?_
    rintro b' -
    rw [List.append_nil]
    (refine g0_ ?_; repeat ((first | refine n1_ fun b_ => ?_ | refine n2_ fun b_ => ?_ | refine n3_ fun b_ pre_ => ?_ | refine Nat1.mk fun q_ hq_ => ?_ | refine em_ fun x_ hx_ => ?_ | refine Elem1.mk fun e_ he_ => ?_); refine g0_ ?_))
    exact ⟨_, fam_set _ _, rfl, wkMem.rfl'⟩
  · rw [if_neg k2]
    refine acalls_of_vc (DL_ok (by decide)) Tryd.func130 rfl (by decide) (by decide) rfl ?_
    (refine g0_ ?_; repeat ((first | refine n1_ fun b_ => ?_ | refine n2_ fun b_ => ?_ | refine n3_ fun b_ pre_ => ?_ | refine Nat1.mk fun q_ hq_ => ?_ | refine em_ fun x_ hx_ => ?_ | refine Elem1.mk fun e_ he_ => ?_); refine g0_ ?_))
    (refine g1_ ?_; repeat ((first | refine n1_ fun b_ => ?_ | refine n2_ fun b_ => ?_ | refine n3_ fun b_ pre_ => ?_ | refine Nat1.mk fun q_ hq_ => ?_ | refine em_ fun x_ hx_ => ?_ | refine Elem1.mk fun e_ he_ => ?_); refine g1_ ?_))
    exact ⟨l, (set_self (by rw [List.getElem?_map, hp]; rfl)).symm, rfl, wkMem.rfl'⟩
end Go.Eng.YtgpkedepboenpaaDoor
end
