/- Texts put together: BndN. -/
import Derived.Test.YtbaokhehnilneaaGreatDoorMBN5
import Derived.Test.YtbaokhehnilneaaGreatDoorMBN2
import Derived.Test.YtbaokhehnilneaaGreatDoorMKY11
import Derived.Test.YtbaokhehnilneaaGreatDoorME6
import Derived.Lib.PrintData
/- Tables of keys printed: strconv.Quote's contract; bind.Print; the law BindPrint (b_ x_ q_ e_). -/
section
namespace Go.Eng.YtbaokhehnilneaaGreatDoor
open Go Go.Eng Go.Proofs Go.Maps
variable (W : World)
set_option linter.unusedSimpArgs false
set_option maxRecDepth 100000
set_option linter.unusedVariables false
set_option maxHeartbeats 8000000
abbrev PrintT (W : World) : Prop := Lib.PrintTabsAt 6 7 8 9 Lib.goPrintTabs W
theorem cell_at {W w : World} {b o : Nat} {v : Value} (hm : W.cell? ⟨b, o, none⟩ = some v) (hw : ∀ b, b < W.heap.size → w.heap[b]? = W.heap[b]?) : w.cell? ⟨b, o, none⟩ = some v := by
  have hlt : b < W.heap.size := by
    simp only [World.cell?] at hm
    cases hb : W.heap[b]? with
    | none => simp [hb] at hm
    | some o => exact (Array.getElem?_eq_some_iff.1 hb).1
  have := hw _ hlt
  simpa only [World.cell?, this] using hm
theorem slice_at {W w : World} {g : Nat} {k : IntKind} {t : List Nat} (h : Lib.TabSlice g k t W) (hw : ∀ b, b < W.heap.size → w.heap[b]? = W.heap[b]?) : Lib.TabSlice g k t w := by
  obtain ⟨R, o, c, h1, h2⟩ := h
  exact ⟨R, o, c, cell_at h1 hw, fun j hj => cell_at (h2 j hj) hw⟩
theorem print_at {W w : World} (h : PrintT W) (hw : ∀ b, b < W.heap.size → w.heap[b]? = W.heap[b]?) : PrintT w :=
  ⟨slice_at h.1 hw, slice_at h.2.1 hw, slice_at h.2.2.1 hw, slice_at h.2.2.2.1 hw, h.2.2.2.2⟩
def quoteQ (s : List UInt8) : List UInt8 := (Lib.quoteZ Lib.goPrintTabs ⟨s.toArray⟩).map fun n => UInt8.ofNat n.toNat
theorem quoteQ_len (s : List UInt8) : (quoteQ s).length ≤ 10 * s.length + 2 := by
  have h := Lib.quoteZ_length_le Lib.goPrintTabs ⟨s.toArray⟩
  have e : (⟨s.toArray⟩ : ByteArray).size = s.length := by simp [ByteArray.size]
  rw [e] at h
  unfold quoteQ
  rw [List.length_map]
  exact h
theorem quoteQ_ok (hT : Tabs W) (hP : PrintT W) (s : List UInt8) (hs : s.length ≤ 4000) : Pure Tryz.prog W 8 [.str s] (.str (quoteQ s)) :=
  Pure.of_below Tryz.func8 rfl (by decide) rfl rfl fun w _ hw => Tryz.strconv_Quote Lib.goPrintTabs ⟨s.toArray⟩ w (by simp [ByteArray.size]; omega) (print_at hP hw) (tabs_at hT hw)
/-! ### What is printed -/
def lineB (s : List UInt8) (b : Bnd) : List UInt8 := s ++ ([98, 105, 110, 100, 32] ++ nameK b.k ++ [32] ++ quoteQ b.cmd ++ [10])
def printB (t : BTab) : List UInt8 := t.binds.foldl lineB ([112, 114, 101, 102, 105, 120, 32] ++ nameK t.pre ++ [10])
theorem wordsB_zero {s : List UInt8} (h : (wordsB s).2 = 0) : s.length ≤ 4000 := by
  unfold wordsB at h
  split at h
  · cases h
  · omega
theorem checkB_zero : ∀ (L : List Bnd) (seen : List Key), checkB seen L = 0 → ∀ b ∈ L, isKey b.k ∧ b.cmd.length ≤ 4000
  | [], _, _, b, hb => by cases hb
  | c :: L, seen, h, b, hb => by
    unfold checkB at h
    split at h
    · cases h
    · rename_i h1
      split at h
      · cases h
      · split at h
        · rename_i h3
          exact absurd h h3
        · rename_i h3
          rcases List.mem_cons.1 hb with rfl | hb
          · exact ⟨by simpa using h1, wordsB_zero (by simpa using h3)⟩
          · exact checkB_zero L _ h b hb
theorem checkT_zero {t : BTab} (h : checkT t = 0) : isKey t.pre ∧ t.binds.length ≤ 20 ∧ ∀ b ∈ t.binds, isKey b.k ∧ b.cmd.length ≤ 4000 := by
  unfold checkT at h
  split at h
  · cases h
  · rename_i h1
    split at h
    · cases h
    · exact ⟨by simpa using h1, by omega, checkB_zero _ _ h⟩
theorem line_snoc {L : List Bnd} {i : Nat} {b : Bnd} (p : List UInt8) (h : L[i]? = some b) : (L.take (i + 1)).foldl lineB p = (L.take i).foldl lineB p ++ ([98, 105, 110, 100, 32] ++ nameK b.k ++ [32] ++ quoteQ b.cmd ++ [10]) := by
  rw [take_snoc_of h, List.foldl_append]
  rfl
theorem bprint_good (hT : Tabs W) (hN : Nums W) (hP : PrintT W) (t : BTab) (hto : t.ok) (h0 : checkT t = 0) : Pure Tryz.prog W 4 [encTab t] (.tup [.str (printB t), .int .i64 0]) := by
  have hcp := bcheck_ok W t hto
  rw [h0] at hcp
  obtain ⟨h1, h2, h3⟩ := checkT_zero h0
  have hnp : Pure Tryz.prog W 10 [.agg [.int .i64 t.pre.kind, .int .i32 t.pre.r, .int .i64 t.pre.n, .int .i64 t.pre.held]] (.tup [.str (nameK t.pre), .int .i64 0]) := name_ok W hN t.pre h1
  have hnl := name_len t.pre h1
  have hbm : (t.binds.map encBnd).length = t.binds.length := List.length_map _
  clear h0 h1 hto
  obtain ⟨pre, L⟩ := t
  unfold printB
  unfold encTab at *
  dsimp only at *
  generalize nameK pre = np at *
  refine Pure.of (acalls_of_vc (drawOk W) Tryz.func4 rfl (by decide) (by decide) rfl ?_)
  (refine g0_ ?_; repeat ((first | refine n1_ fun b_ => ?_ | refine n2_ fun b_ => ?_ | refine Nat1.mk fun q_ hq_ => ?_ | refine em_ fun x_ hx_ => ?_ | refine Elem1.mk fun e_ he_ => ?_); refine g0_ ?_))
  refine (hcp).use ?_; (refine g0_ ?_; repeat ((first | refine n1_ fun b_ => ?_ | refine n2_ fun b_ => ?_ | refine Nat1.mk fun q_ hq_ => ?_ | refine em_ fun x_ hx_ => ?_ | refine Elem1.mk fun e_ he_ => ?_); refine g0_ ?_))
  (refine g0_ ?_; repeat ((first | refine n1_ fun b_ => ?_ | refine n2_ fun b_ => ?_ | refine Nat1.mk fun q_ hq_ => ?_ | refine em_ fun x_ hx_ => ?_ | refine Elem1.mk fun e_ he_ => ?_); refine g0_ ?_))
  refine (hnp).use ?_; (refine g0_ ?_; repeat ((first | refine n1_ fun b_ => ?_ | refine n2_ fun b_ => ?_ | refine Nat1.mk fun q_ hq_ => ?_ | refine em_ fun x_ hx_ => ?_ | refine Elem1.mk fun e_ he_ => ?_); refine g0_ ?_))
  (refine g0_ ?_; repeat ((first | refine n1_ fun b_ => ?_ | refine n2_ fun b_ => ?_ | refine Nat1.mk fun q_ hq_ => ?_ | refine em_ fun x_ hx_ => ?_ | refine Elem1.mk fun e_ he_ => ?_); refine g0_ ?_))
  refine' loopI (α := Nat × (List UInt8)) (fun (i, s) => [(29, .int .i64 i), (7, .str s)]) [(27, _), (28, _)] (fun (i, s) => [⟨b_, .row 5 [.agg [.int .i64 pre.kind, .int .i32 pre.r, .int .i64 pre.n, .int .i64 pre.held, .sl 5 (L.map encBnd)]] 0⟩]) (fun (i, s) => i ≤ L.length ∧ s = (L.take i).foldl lineB ([112, 114, 101, 102, 105, 120, 32] ++ np ++ [10]) ∧ s.length ≤ 100 + 50000 * i) (fun (i, s) => L.length - i) (0, [112, 114, 101, 102, 105, 120, 32] ++ np ++ [10]) ?_ ?_
  · exact ⟨Nat.zero_le _, rfl, by simp only [List.length_append, List.length_cons, List.length_nil]; omega⟩
  rintro ⟨i, s⟩ ⟨hi, hs, hsl⟩
  by_cases hiL : i = L.length
  · subst hiL
    rw [List.take_length] at hs
    rw [← hs]
    (refine g0_ ?_; repeat ((first | refine n1_ fun b_ => ?_ | refine n2_ fun b_ => ?_ | refine Nat1.mk fun q_ hq_ => ?_ | refine em_ fun x_ hx_ => ?_ | refine Elem1.mk fun e_ he_ => ?_); refine g0_ ?_))
    (refine g1_ ?_; repeat ((first | refine n1_ fun b_ => ?_ | refine n2_ fun b_ => ?_ | refine Nat1.mk fun q_ hq_ => ?_ | refine em_ fun x_ hx_ => ?_ | refine Elem1.mk fun e_ he_ => ?_); refine g1_ ?_))
    exact .refl _
  · obtain ⟨b, hb⟩ : ∃ b, L[i]? = some b := ⟨L[i]'(by omega), List.getElem?_eq_getElem _⟩
    obtain ⟨hbk, hbl⟩ := h3 b (List.mem_of_getElem? hb)
    have hkn : Pure Tryz.prog W 10 [.agg [.int .i64 b.k.kind, .int .i32 b.k.r, .int .i64 b.k.n, .int .i64 b.k.held]] (.tup [.str (nameK b.k), .int .i64 0]) := name_ok W hN b.k hbk
    have hnl := name_len b.k hbk
    have hq := quoteQ_ok W hT hP b.cmd hbl
    have hql := quoteQ_len b.cmd
    have hs' := line_snoc ([112, 114, 101, 102, 105, 120, 32] ++ np ++ [10]) hb
    rw [← hs] at hs'
    clear hs
    generalize nameK b.k = nm at *
    generalize quoteQ b.cmd = qt at *
    (refine g0_ ?_; repeat ((first | refine n1_ fun b_ => ?_ | refine n2_ fun b_ => ?_ | refine Nat1.mk fun q_ hq_ => ?_ | refine em_ fun x_ hx_ => ?_ | refine Elem1.mk fun e_ he_ => ?_); refine g0_ ?_))
    (refine g1_ ?_; repeat ((first | refine n1_ fun b_ => ?_ | refine n2_ fun b_ => ?_ | refine Nat1.mk fun q_ hq_ => ?_ | refine em_ fun x_ hx_ => ?_ | refine Elem1.mk fun e_ he_ => ?_); refine g1_ ?_))
    refine (hkn).use ?_; (refine g0_ ?_; repeat ((first | refine n1_ fun b_ => ?_ | refine n2_ fun b_ => ?_ | refine Nat1.mk fun q_ hq_ => ?_ | refine em_ fun x_ hx_ => ?_ | refine Elem1.mk fun e_ he_ => ?_); refine g0_ ?_))
    (refine g1_ ?_; repeat ((first | refine n1_ fun b_ => ?_ | refine n2_ fun b_ => ?_ | refine Nat1.mk fun q_ hq_ => ?_ | refine em_ fun x_ hx_ => ?_ | refine Elem1.mk fun e_ he_ => ?_); refine g1_ ?_))
    refine (hq).use ?_; (refine g0_ ?_; repeat ((first | refine n1_ fun b_ => ?_ | refine n2_ fun b_ => ?_ | refine Nat1.mk fun q_ hq_ => ?_ | refine em_ fun x_ hx_ => ?_ | refine Elem1.mk fun e_ he_ => ?_); refine g0_ ?_))
    (refine g1_ ?_; repeat ((first | refine n1_ fun b_ => ?_ | refine n2_ fun b_ => ?_ | refine Nat1.mk fun q_ hq_ => ?_ | refine em_ fun x_ hx_ => ?_ | refine Elem1.mk fun e_ he_ => ?_); refine g1_ ?_))
    refine nx_ (i + 1, s ++ ([98, 105, 110, 100, 32] ++ nm ++ [32] ++ qt ++ [10])) ?_ ?_
    · exact ⟨by omega, hs'.symm, by simp only [List.length_append, List.length_cons, List.length_nil]; omega⟩
    · ((try dsimp only); (try simp only [List.length_drop, List.length_take, List.length_append, List.length_cons, List.length_nil, List.length_map] at *); omega)
theorem bprint_bad (t : BTab) (hto : t.ok) (h0 : checkT t ≠ 0) : Pure Tryz.prog W 4 [encTab t] (.tup [.str [], .int .i64 (checkT t)]) := by
  have hcp := bcheck_ok W t hto
  generalize checkT t = E at *
  obtain ⟨pre, L⟩ := t
  unfold encTab at *
  dsimp only at *
  refine Pure.of (acalls_of_vc (drawOk W) Tryz.func4 rfl (by decide) (by decide) rfl ?_)
  (refine g0_ ?_; repeat ((first | refine n1_ fun b_ => ?_ | refine n2_ fun b_ => ?_ | refine Nat1.mk fun q_ hq_ => ?_ | refine em_ fun x_ hx_ => ?_ | refine Elem1.mk fun e_ he_ => ?_); refine g0_ ?_))
  refine (hcp).use ?_; (refine g0_ ?_; repeat ((first | refine n1_ fun b_ => ?_ | refine n2_ fun b_ => ?_ | refine Nat1.mk fun q_ hq_ => ?_ | refine em_ fun x_ hx_ => ?_ | refine Elem1.mk fun e_ he_ => ?_); refine g0_ ?_))
  (refine g1_ ?_; repeat ((first | refine n1_ fun b_ => ?_ | refine n2_ fun b_ => ?_ | refine Nat1.mk fun q_ hq_ => ?_ | refine em_ fun x_ hx_ => ?_ | refine Elem1.mk fun e_ he_ => ?_); refine g1_ ?_))
  exact .refl _
theorem bindPrint_ok (hK : (Keyz W ∧ SpaceT W) ∧ PrintT W) (hM : MaxJ W) (t : BTab) (hto : t.ok) : Pure Tryz.prog W 3 [encTab t] (.bool true) := by
  obtain ⟨⟨⟨hT, hN, hE⟩, hS⟩, hP⟩ := hK
  have hbd := bound_ok W hT hN hE
  have hck := bcheckR_ok W hN hM t hto
  by_cases h0 : checkT t = 0
  · have hpr := bprint_good W hT hN hP t hto h0
    rw [h0] at hck
    obtain ⟨h1, h2, h3⟩ := checkT_zero h0
    have hnp : Pure Tryz.prog W 7 [.agg [.int .i64 t.pre.kind, .int .i32 t.pre.r, .int .i64 t.pre.n, .int .i64 t.pre.held]] (.str (nameK t.pre)) := keyName_ok W hN hS t.pre h1
    have hnl := name_len t.pre h1
    have hbm : (t.binds.map encBnd).length = t.binds.length := List.length_map _
    clear h0 h1 hto
    obtain ⟨pre, L⟩ := t
    unfold printB at hpr
    unfold encTab at *
    dsimp only at *
    generalize nameK pre = np at *
    generalize hR : L.foldl lineB ([112, 114, 101, 102, 105, 120, 32] ++ np ++ [10]) = R at *
    refine Pure.of (acalls_of_vc (drawOk W) Tryz.func3 rfl (by decide) (by decide) rfl ?_)
    (refine g0_ ?_; repeat ((first | refine n1_ fun b_ => ?_ | refine n2_ fun b_ => ?_ | refine Nat1.mk fun q_ hq_ => ?_ | refine em_ fun x_ hx_ => ?_ | refine Elem1.mk fun e_ he_ => ?_); refine g0_ ?_))
    refine (hpr).use ?_; (refine g0_ ?_; repeat ((first | refine n1_ fun b_ => ?_ | refine n2_ fun b_ => ?_ | refine Nat1.mk fun q_ hq_ => ?_ | refine em_ fun x_ hx_ => ?_ | refine Elem1.mk fun e_ he_ => ?_); refine g0_ ?_))
    (refine g0_ ?_; repeat ((first | refine n1_ fun b_ => ?_ | refine n2_ fun b_ => ?_ | refine Nat1.mk fun q_ hq_ => ?_ | refine em_ fun x_ hx_ => ?_ | refine Elem1.mk fun e_ he_ => ?_); refine g0_ ?_))
    refine (hck).use ?_; (refine g0_ ?_; repeat ((first | refine n1_ fun b_ => ?_ | refine n2_ fun b_ => ?_ | refine Nat1.mk fun q_ hq_ => ?_ | refine em_ fun x_ hx_ => ?_ | refine Elem1.mk fun e_ he_ => ?_); refine g0_ ?_))
    (refine g0_ ?_; repeat ((first | refine n1_ fun b_ => ?_ | refine n2_ fun b_ => ?_ | refine Nat1.mk fun q_ hq_ => ?_ | refine em_ fun x_ hx_ => ?_ | refine Elem1.mk fun e_ he_ => ?_); refine g0_ ?_))
    refine (hbd).use ?_; (refine g0_ ?_; repeat ((first | refine n1_ fun b_ => ?_ | refine n2_ fun b_ => ?_ | refine Nat1.mk fun q_ hq_ => ?_ | refine em_ fun x_ hx_ => ?_ | refine Elem1.mk fun e_ he_ => ?_); refine g0_ ?_))
    (refine g1_ ?_; repeat ((first | refine n1_ fun b_ => ?_ | refine n2_ fun b_ => ?_ | refine Nat1.mk fun q_ hq_ => ?_ | refine em_ fun x_ hx_ => ?_ | refine Elem1.mk fun e_ he_ => ?_); refine g1_ ?_))
    refine (hnp).use ?_; (refine g0_ ?_; repeat ((first | refine n1_ fun b_ => ?_ | refine n2_ fun b_ => ?_ | refine Nat1.mk fun q_ hq_ => ?_ | refine em_ fun x_ hx_ => ?_ | refine Elem1.mk fun e_ he_ => ?_); refine g0_ ?_))
    (refine g1_ ?_; repeat ((first | refine n1_ fun b_ => ?_ | refine n2_ fun b_ => ?_ | refine Nat1.mk fun q_ hq_ => ?_ | refine em_ fun x_ hx_ => ?_ | refine Elem1.mk fun e_ he_ => ?_); refine g1_ ?_))
    refine' loopI (α := Nat × (List UInt8)) (fun (i, s) => [(40, .int .i64 i), (6, .str s)]) [(3, _), (4, _), (38, _), (39, _)] (fun (i, s) => [⟨b_, .row 5 [.agg [.int .i64 pre.kind, .int .i32 pre.r, .int .i64 pre.n, .int .i64 pre.held, .sl 5 (L.map encBnd)]] 0⟩]) (fun (i, s) => i ≤ L.length ∧ s = (L.take i).foldl lineB ([112, 114, 101, 102, 105, 120, 32] ++ np ++ [10]) ∧ s.length ≤ 100 + 50000 * i) (fun (i, s) => L.length - i) (0, [112, 114, 101, 102, 105, 120, 32] ++ np ++ [10]) ?_ ?_
    · exact ⟨Nat.zero_le _, rfl, by simp only [List.length_append, List.length_cons, List.length_nil]; omega⟩
    rintro ⟨i, s⟩ ⟨hi, hs, hsl⟩
    by_cases hiL : i = L.length
    · subst hiL
      rw [List.take_length, hR] at hs
      subst hs
      (refine g0_ ?_; repeat ((first | refine n1_ fun b_ => ?_ | refine n2_ fun b_ => ?_ | refine Nat1.mk fun q_ hq_ => ?_ | refine em_ fun x_ hx_ => ?_ | refine Elem1.mk fun e_ he_ => ?_); refine g0_ ?_))
      (refine g1_ ?_; repeat ((first | refine n1_ fun b_ => ?_ | refine n2_ fun b_ => ?_ | refine Nat1.mk fun q_ hq_ => ?_ | refine em_ fun x_ hx_ => ?_ | refine Elem1.mk fun e_ he_ => ?_); refine g1_ ?_))
      exact frz_bool (by simp)
    · obtain ⟨b, hb⟩ : ∃ b, L[i]? = some b := ⟨L[i]'(by omega), List.getElem?_eq_getElem _⟩
      obtain ⟨hbk, hbl⟩ := h3 b (List.mem_of_getElem? hb)
      have hkn : Pure Tryz.prog W 7 [.agg [.int .i64 b.k.kind, .int .i32 b.k.r, .int .i64 b.k.n, .int .i64 b.k.held]] (.str (nameK b.k)) := keyName_ok W hN hS b.k hbk
      have hnl := name_len b.k hbk
      have hq := quoteQ_ok W hT hP b.cmd hbl
      have hql := quoteQ_len b.cmd
      have hs' := line_snoc ([112, 114, 101, 102, 105, 120, 32] ++ np ++ [10]) hb
      rw [← hs] at hs'
      clear hs hR
      generalize nameK b.k = nm at *
      generalize quoteQ b.cmd = qt at *
      (refine g0_ ?_; repeat ((first | refine n1_ fun b_ => ?_ | refine n2_ fun b_ => ?_ | refine Nat1.mk fun q_ hq_ => ?_ | refine em_ fun x_ hx_ => ?_ | refine Elem1.mk fun e_ he_ => ?_); refine g0_ ?_))
      (refine g1_ ?_; repeat ((first | refine n1_ fun b_ => ?_ | refine n2_ fun b_ => ?_ | refine Nat1.mk fun q_ hq_ => ?_ | refine em_ fun x_ hx_ => ?_ | refine Elem1.mk fun e_ he_ => ?_); refine g1_ ?_))
      refine head_ ?_; (refine g0_ ?_; repeat ((first | refine n1_ fun b_ => ?_ | refine n2_ fun b_ => ?_ | refine Nat1.mk fun q_ hq_ => ?_ | refine em_ fun x_ hx_ => ?_ | refine Elem1.mk fun e_ he_ => ?_); refine g0_ ?_))
      refine ⟨_, (hkn).quiet, ?_⟩; (refine g0_ ?_; repeat ((first | refine n1_ fun b_ => ?_ | refine n2_ fun b_ => ?_ | refine Nat1.mk fun q_ hq_ => ?_ | refine em_ fun x_ hx_ => ?_ | refine Elem1.mk fun e_ he_ => ?_); refine g0_ ?_))
      refine ⟨_, (hq).quiet, ?_⟩; (refine g0_ ?_; repeat ((first | refine n1_ fun b_ => ?_ | refine n2_ fun b_ => ?_ | refine Nat1.mk fun q_ hq_ => ?_ | refine em_ fun x_ hx_ => ?_ | refine Elem1.mk fun e_ he_ => ?_); refine g0_ ?_))
      (refine g1_ ?_; repeat ((first | refine n1_ fun b_ => ?_ | refine n2_ fun b_ => ?_ | refine Nat1.mk fun q_ hq_ => ?_ | refine em_ fun x_ hx_ => ?_ | refine Elem1.mk fun e_ he_ => ?_); refine g1_ ?_))
      refine nx_ (i + 1, s ++ ([98, 105, 110, 100, 32] ++ nm ++ [32] ++ qt ++ [10])) ?_ ?_
      · exact ⟨by omega, hs'.symm, by simp only [List.length_append, List.length_cons, List.length_nil]; omega⟩
      · ((try dsimp only); (try simp only [List.length_drop, List.length_take, List.length_append, List.length_cons, List.length_nil, List.length_map] at *); omega)
  · have hpr := bprint_bad W t hto h0
    generalize checkT t = E at *
    obtain ⟨pre, L⟩ := t
    unfold encTab at *
    dsimp only at *
    refine Pure.of (acalls_of_vc (drawOk W) Tryz.func3 rfl (by decide) (by decide) rfl ?_)
    (refine g0_ ?_; repeat ((first | refine n1_ fun b_ => ?_ | refine n2_ fun b_ => ?_ | refine Nat1.mk fun q_ hq_ => ?_ | refine em_ fun x_ hx_ => ?_ | refine Elem1.mk fun e_ he_ => ?_); refine g0_ ?_))
    refine (hpr).use ?_; (refine g0_ ?_; repeat ((first | refine n1_ fun b_ => ?_ | refine n2_ fun b_ => ?_ | refine Nat1.mk fun q_ hq_ => ?_ | refine em_ fun x_ hx_ => ?_ | refine Elem1.mk fun e_ he_ => ?_); refine g0_ ?_))
    (refine g0_ ?_; repeat ((first | refine n1_ fun b_ => ?_ | refine n2_ fun b_ => ?_ | refine Nat1.mk fun q_ hq_ => ?_ | refine em_ fun x_ hx_ => ?_ | refine Elem1.mk fun e_ he_ => ?_); refine g0_ ?_))
    refine (hck).use ?_; (refine g0_ ?_; repeat ((first | refine n1_ fun b_ => ?_ | refine n2_ fun b_ => ?_ | refine Nat1.mk fun q_ hq_ => ?_ | refine em_ fun x_ hx_ => ?_ | refine Elem1.mk fun e_ he_ => ?_); refine g0_ ?_))
    (refine g0_ ?_; repeat ((first | refine n1_ fun b_ => ?_ | refine n2_ fun b_ => ?_ | refine Nat1.mk fun q_ hq_ => ?_ | refine em_ fun x_ hx_ => ?_ | refine Elem1.mk fun e_ he_ => ?_); refine g0_ ?_))
    refine (hbd).use ?_; (refine g0_ ?_; repeat ((first | refine n1_ fun b_ => ?_ | refine n2_ fun b_ => ?_ | refine Nat1.mk fun q_ hq_ => ?_ | refine em_ fun x_ hx_ => ?_ | refine Elem1.mk fun e_ he_ => ?_); refine g0_ ?_))
    (refine g1_ ?_; repeat ((first | refine n1_ fun b_ => ?_ | refine n2_ fun b_ => ?_ | refine Nat1.mk fun q_ hq_ => ?_ | refine em_ fun x_ hx_ => ?_ | refine Elem1.mk fun e_ he_ => ?_); refine g1_ ?_))
    refine (hbd).use ?_; (refine g0_ ?_; repeat ((first | refine n1_ fun b_ => ?_ | refine n2_ fun b_ => ?_ | refine Nat1.mk fun q_ hq_ => ?_ | refine em_ fun x_ hx_ => ?_ | refine Elem1.mk fun e_ he_ => ?_); refine g0_ ?_))
    (refine g1_ ?_; repeat ((first | refine n1_ fun b_ => ?_ | refine n2_ fun b_ => ?_ | refine Nat1.mk fun q_ hq_ => ?_ | refine em_ fun x_ hx_ => ?_ | refine Elem1.mk fun e_ he_ => ?_); refine g1_ ?_))
    exact frz_bool (by simp)
end Go.Eng.YtbaokhehnilneaaGreatDoor
end
