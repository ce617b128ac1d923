/- Texts put together: Utf8, Width, Text5, WidthLaw, Text, Text2, Text3, Runes, Text4, Text6, Builder, CleanL, Clean. -/
import Derived.Test.YtkenlcaifhffoaaDoorME3
import Derived.Test.YtkenlcaifhffoaaDoorMH1
import Derived.Lib.TrimU
import Derived.Shelf.Unicode.DecodeLastEight
import Derived.Lib.TrimUEq
import Derived.Lib.Repeat
import Derived.Lib.RuneBytes
/- The library's readers of UTF-8, by the kit's contracts. -/
section
namespace Go.Eng.YtkenlcaifhffoaaDoor
open Go Go.Eng Go.Proofs
variable (W : World)
def dec (s : List UInt8) : Nat × Nat := Lib.decodeGo ⟨s.toArray⟩
abbrev Tabs (W : World) : Prop := Lib.Utf8Tabs 0 1 W
theorem tabs_at {W w : World} (h : Tabs W) (hs : ∀ b, b < W.heap.size → w.heap[b]? = W.heap[b]?) : Tabs w := by
  have lt : ∀ b o v, W.cell? ⟨b, o, none⟩ = some v → b < W.heap.size := by
    intro b o v h
    simp only [World.cell?] at h
    cases hb : W.heap[b]? with
    | none => simp [hb] at h
    | some o => exact (Array.getElem?_eq_some_iff.1 hb).1
  have cell : ∀ b o v, W.cell? ⟨b, o, none⟩ = some v → w.cell? ⟨b, o, none⟩ = some v := fun b o v h => by
    have := hs b (lt b o v h)
    simpa only [World.cell?, this] using h
  exact ⟨fun c hc => cell _ _ _ (h.1 c hc), fun i hi => ⟨cell _ _ _ (h.2 i hi).1, cell _ _ _ (h.2 i hi).2⟩⟩
theorem decodeRune_ok (hT : Tabs W) (s : List UInt8) : Pure Tryd.prog W 123 [.str s] (.tup [.int .i32 (dec s).1, .int .i64 (dec s).2]) :=
  Pure.of_below Tryd.func123 rfl (by decide) rfl rfl fun w _ hw => Tryd.utf8_DecodeRuneInString ⟨s.toArray⟩ w (tabs_at hT hw)
theorem dec_le (s : List UInt8) : (dec s).2 ≤ s.length := by simpa [ByteArray.size, dec] using Lib.decodeGo_le_size ⟨s.toArray⟩
theorem dec_pos (s : List UInt8) (h : s ≠ []) : 1 ≤ (dec s).2 := by
  have hn : ¬ (⟨s.toArray⟩ : ByteArray).size = 0 := by simpa [ByteArray.size] using h
  simp only [dec, Lib.decodeGo, if_neg hn]
  exact Lib.width_pos _ _
end Go.Eng.YtkenlcaifhffoaaDoor
end

/- Package text's widths. -/
section
namespace Go.Eng.YtkenlcaifhffoaaDoor
open Go Go.Eng Go.Proofs
variable (W : World)
set_option linter.unusedSimpArgs false
set_option maxRecDepth 100000
set_option linter.unusedVariables false

/-! ### Spans -/
def encSpan (p : Int × Int) : PV := .agg [.int .i32 p.1, .int .i32 p.2]
def withinL (r : Int) (l : List (Int × Int)) : Bool := l.any fun s => decide (s.1 ≤ r) && decide (r ≤ s.2)
theorem withinL_cons (r : Int) (p : Int × Int) (l : List (Int × Int)) : withinL r (p :: l) = (decide (p.1 ≤ r) && decide (r ≤ p.2) || withinL r l) := rfl
theorem within_ok (r : Int) (l : List (Int × Int)) (hl : (l.length : Int) ≤ 9223372036854775806) : Pure Tryd.prog W 137 [.int .i32 r, .sl 2 (l.map encSpan)] (.bool (withinL r l)) := by
  refine Pure.of (acalls_of_vc (drawOk W) Tryd.func137 rfl (by decide) (by decide) rfl ?_)
  refine g0_ ?_
  refine' loopI (α := Nat) (fun i => [(9, .int .i64 i)]) [(0, _), (7, _), (8, _)] (fun i => []) (fun i => i ≤ l.length ∧ withinL r (l.drop i) = withinL r l) (fun i => l.length - i) 0 ?_ ?_
  · exact ⟨Nat.zero_le _, rfl⟩
  rintro i ⟨hi, hw⟩
  refine g0_ ?_
  refine brec ?_; intro c_ hc; (try rw [hc]); cases c_ <;> replace hc := nm_ hc
  · simp only [List.length_map] at hc
    refine g0_ ?_
    rw [← hw, List.drop_of_length_le (by omega)]
    exact .refl _
  · simp only [List.length_map] at hc
    (refine g0_ ?_; repeat ((first | refine n1_ fun b_ => ?_ | refine em_ fun x_ hx_ => ?_); refine g0_ ?_))
    have hlt := lt_of_at hx_
    rw [drop_cons_of hx_, withinL_cons] at hw
    refine brec ?_; intro c_ h1; (try rw [h1]); cases c_ <;> replace h1 := nm_ h1
    · rw [show (decide (x_.1 ≤ r) && decide (r ≤ x_.2)) = false by rw [Bool.eq_false_iff]; simpa using h1] at hw
      refine g0_ ?_
      refine nx_ (i + 1) ?_ ?_
      · exact ⟨hlt, by simpa using hw⟩
      · omega
    · refine g0_ ?_
      rw [← hw, decide_eq_true h1.1, decide_eq_true h1.2]
      exact .refl _
def noneS : List (Int × Int) := [(0, 31), (127, 159), (768, 879), (8203, 8207), (8232, 8238), (8400, 8447), (55296, 57343), (65024, 65039), (65279, 65279)]
def wideS : List (Int × Int) := [(4352, 4447), (11904, 12350), (12353, 13311), (13312, 19903), (19968, 40959), (40960, 42191), (44032, 55203), (63744, 64255), (65072, 65135), (65280, 65376), (65504, 65510), (127744, 128591), (129280, 129535), (131072, 262141)]
theorem none_ok (r : Int) : Pure Tryd.prog W 124 [.int .i32 r] (.bool (withinL r noneS)) := by
  refine Pure.of (acalls_of_vc (drawOk W) Tryd.func124 rfl (by decide) (by decide) rfl ?_)
  refine g0_ ?_
  refine .inl ?_
  refine g0_ ?_
  refine (within_ok W r noneS (by decide)).use ?_; refine g0_ ?_
  exact .refl _
theorem wideR_ok (r : Int) : Pure Tryd.prog W 125 [.int .i32 r] (.bool (withinL r wideS)) := by
  refine Pure.of (acalls_of_vc (drawOk W) Tryd.func125 rfl (by decide) (by decide) rfl ?_)
  refine g0_ ?_
  refine .inl ?_
  refine g0_ ?_
  refine (within_ok W r wideS (by decide)).use ?_; refine g0_ ?_
  exact .refl _
def widthL (r : Int) : Nat := if r < 0 ∨ 1114111 < r ∨ withinL r noneS = true then 0 else if withinL r wideS = true then 2 else 1
theorem width_ok (r : Int) : Pure Tryd.prog W 106 [.int .i32 r] (.int .i64 (widthL r)) := by
  refine Pure.of (acalls_of_vc (drawOk W) Tryd.func106 rfl (by decide) (by decide) rfl ?_)
  refine g0_ ?_
  refine brec ?_; intro c_ h1; (try rw [h1]); cases c_ <;> replace h1 := nm_ h1
  · have h2 : ¬ r < 0 := by omega
    have h3 : ¬ 1114111 < r := by omega
    refine g0_ ?_
    refine (none_ok W r).use ?_; refine g0_ ?_
    refine brec ?_; intro c_ h4; (try rw [h4]); cases c_ <;> replace h4 := nm_ h4
    · refine g0_ ?_
      refine (wideR_ok W r).use ?_; refine g0_ ?_
      refine brec ?_; intro c_ h5; (try rw [h5]); cases c_ <;> replace h5 := nm_ h5
      · refine g0_ ?_
        rw [show widthL r = 1 by simp [widthL, h2, h3, h4, h5]]
        exact .refl _
      · refine g0_ ?_
        rw [show widthL r = 2 by simp [widthL, h2, h3, h4, h5]]
        exact .refl _
    · refine g0_ ?_
      rw [show widthL r = 0 by simp [widthL, h4]]
      exact .refl _
  · refine g0_ ?_
    rw [show widthL r = 0 by rcases h1 with h1 | h1 <;> simp [widthL, h1]]
    exact .refl _
end Go.Eng.YtkenlcaifhffoaaDoor
end

/- The document's widths. -/
section
namespace Go.Eng.YtkenlcaifhffoaaDoor
open Go Go.Eng Go.Proofs
variable (W : World)
set_option linter.unusedSimpArgs false
set_option maxRecDepth 100000
set_option linter.unusedVariables false
def edges : List (Int × Int) := [(0, 0), (32, 1), (127, 0), (160, 1), (768, 0), (880, 1), (4352, 2), (4448, 1), (8203, 0), (8208, 1), (8232, 0), (8239, 1), (8400, 0), (8448, 1), (11904, 2), (12351, 1), (12353, 2), (19904, 1), (19968, 2), (42192, 1), (44032, 2), (55204, 1), (55296, 0), (57344, 1), (63744, 2), (64256, 1), (65024, 0), (65040, 1), (65072, 2), (65136, 1), (65279, 0), (65280, 2), (65377, 1), (65504, 2), (65511, 1), (127744, 2), (128592, 1), (129280, 2), (129536, 1), (131072, 2), (262142, 1)]
def encEdge (p : Int × Int) : PV := .agg [.int .i32 p.1, .int .i64 p.2]
def foldE (r : Int) (w : Int) (l : List (Int × Int)) : Int := l.foldl (fun w e => if e.1 ≤ r then e.2 else w) w
def widthOfL (r : Int) : Int := if r < 0 ∨ 1114111 < r then 0 else foldE r 0 edges
end Go.Eng.YtkenlcaifhffoaaDoor
end

/- The program's width of a rune is the document's: a plain law. -/
section
namespace Go.Eng.YtkenlcaifhffoaaDoor
open Go Go.Eng Go.Proofs
def marks : List Int := edges.map (·.1) ++ noneS.map (·.1) ++ noneS.map (·.2 + 1) ++ wideS.map (·.1) ++ wideS.map (·.2 + 1)
def lowM (r : Int) : List Int → Int → Int
  | [], m => m
  | x :: l, m => lowM r l (if x ≤ r ∧ m ≤ x then x else m)
end Go.Eng.YtkenlcaifhffoaaDoor
end

/- Package text: the first rune. -/
section
namespace Go.Eng.YtkenlcaifhffoaaDoor
open Go Go.Eng Go.Proofs
variable (W : World)
set_option linter.unusedSimpArgs false
set_option maxRecDepth 100000
set_option linter.unusedVariables false

/-! ### The first rune -/
def nextL (s : List UInt8) : Nat × Nat := if s = [] then (0, 0) else dec s
theorem next_ok (hT : Tabs W) (s : List UInt8) : Pure Tryd.prog W 105 [.str s] (.tup [.int .i32 (nextL s).1, .int .i64 (nextL s).2]) := by
  refine Pure.of (acalls_of_vc (drawOk W) Tryd.func105 rfl (by decide) (by decide) rfl ?_)
  refine g0_ ?_
  refine brec ?_; intro c_ hs; (try rw [hs]); cases c_ <;> replace hs := nm_ hs
  · refine g0_ ?_
    refine (decodeRune_ok W hT s).use ?_; refine g0_ ?_
    simp only [nextL, if_neg hs]
    exact .refl _
  · subst hs
    refine g0_ ?_
    exact .refl _
end Go.Eng.YtkenlcaifhffoaaDoor
end

/- Package text's texts: Wide, Cut, Fit. -/
section
namespace Go.Eng.YtkenlcaifhffoaaDoor
open Go Go.Eng Go.Proofs
variable (W : World)
set_option linter.unusedSimpArgs false
set_option maxRecDepth 100000
set_option linter.unusedVariables false

def runes (s : List UInt8) : List (Nat × Nat) := if h : s = [] then [] else dec s :: runes (s.drop (dec s).2)
termination_by s.length
decreasing_by
  have h1 := dec_pos s h
  have h2 : 0 < s.length := List.length_pos_iff.2 h
  simp; omega
theorem runes_nil : runes [] = [] := by rw [runes]; simp
theorem runes_cons {s : List UInt8} (h : s ≠ []) : runes s = dec s :: runes (s.drop (dec s).2) := by
  conv => lhs; rw [runes, dif_neg h]
theorem nextL_of {s : List UInt8} (h : s ≠ []) : nextL s = dec s := by simp [nextL, h]
theorem runes_ind {Q : List UInt8 → Prop} (h0 : Q []) (h1 : ∀ s, s ≠ [] → Q (s.drop (dec s).2) → Q s) : ∀ s, Q s := by
  intro s
  induction hn : s.length using Nat.strongRecOn generalizing s with
  | _ n ih =>
    by_cases hs : s = []
    · exact hs ▸ h0
    · have h2 := dec_pos s hs
      have h3 : 0 < s.length := List.length_pos_iff.2 hs
      exact h1 s hs (ih _ (by simp; omega) _ rfl)

def wideRs : List (Nat × Nat) → Nat
  | [] => 0
  | p :: l => widthL p.1 + wideRs l
def wideL (s : List UInt8) : Nat := wideRs (runes s)
end Go.Eng.YtkenlcaifhffoaaDoor
end

/- Package text's texts: Cut, Fit; what the laws look at first. -/
section
namespace Go.Eng.YtkenlcaifhffoaaDoor
open Go Go.Eng Go.Proofs
variable (W : World)
set_option linter.unusedSimpArgs false
set_option maxRecDepth 100000
set_option linter.unusedVariables false

def cutAt (n : Int) : Nat → List (Nat × Nat) → Nat
  | _, [] => 0
  | used, p :: l => if n < used + widthL p.1 then 0 else p.2 + cutAt n (used + widthL p.1) l
def cutL (s : List UInt8) (n : Int) : List UInt8 := s.take (cutAt n 0 (runes s))
end Go.Eng.YtkenlcaifhffoaaDoor
end

/- Runes of bytes that are cut, or put together: plain laws. -/
section
namespace Go.Eng.YtkenlcaifhffoaaDoor
open Go Go.Eng Go.Proofs

theorem dec_N {s : List UInt8} (h : s ≠ []) : dec s = Lib.decodeN s.length (s.getD 0 0).toNat (s.getD 1 0).toNat (s.getD 2 0).toNat (s.getD 3 0).toNat := by
  have hn : ¬ (⟨s.toArray⟩ : ByteArray).size = 0 := by simpa [ByteArray.size] using h
  simp only [dec, Lib.decodeGo, if_neg hn]
  exact Lib.decodeL_N s
def sizes : List (Nat × Nat) → Nat
  | [] => 0
  | p :: l => p.2 + sizes l
def cutN (n : Int) : Nat → List (Nat × Nat) → Nat
  | _, [] => 0
  | used, p :: l => if n < used + widthL p.1 then 0 else cutN n (used + widthL p.1) l + 1
end Go.Eng.YtkenlcaifhffoaaDoor
end

/- Package text: Fit; the fact that the laws look at first; TextNext. -/
section
namespace Go.Eng.YtkenlcaifhffoaaDoor
open Go Go.Eng Go.Proofs
variable (W : World)
set_option linter.unusedSimpArgs false
set_option maxRecDepth 100000
set_option linter.unusedVariables false

def fitL (s : List UInt8) (n : Int) : List UInt8 := if n < 0 ∨ 120 < n then [] else cutL s n ++ Lib.repeatL [32] (n - wideL (cutL s n)).toNat
def runesF : Nat → List UInt8 → List (Nat × Nat)
  | 0, _ => []
  | n + 1, s => if s = [] then [] else dec s :: runesF n (s.drop (dec s).2)
def nihonx : List UInt8 := [230, 151, 165, 230, 156, 172, 120]
end Go.Eng.YtkenlcaifhffoaaDoor
end

/- The document's reading of texts, rune by rune. -/
section
namespace Go.Eng.YtkenlcaifhffoaaDoor
open Go Go.Eng Go.Proofs
variable (W : World)
set_option linter.unusedSimpArgs false
set_option maxRecDepth 100000
set_option linter.unusedVariables false
theorem decode_drop (s : List UInt8) (pos : Nat) (h : pos < s.length) : Utf8.decode ⟨s.toArray⟩ pos = dec (s.drop pos) := by
  have hne : s.drop pos ≠ [] := by simp; omega
  have hn : ¬ (⟨(s.drop pos).toArray⟩ : ByteArray).size = 0 := by simp [ByteArray.size]; omega
  have := Lib.decodeL_drop ⟨s.toArray⟩ pos
  rw [← this]
  simp only [dec, Lib.decodeGo, if_neg hn]
  rfl
def wideOfRs : List (Nat × Nat) → Int
  | [] => 0
  | p :: l => widthOfL p.1 + wideOfRs l
end Go.Eng.YtkenlcaifhffoaaDoor
end

/- Runes as bytes; strings.Builder. -/
section
namespace Go.Eng.YtkenlcaifhffoaaDoor
open Go Go.Eng Go.Proofs
variable (W : World)
set_option linter.unusedSimpArgs false
set_option maxRecDepth 100000
set_option linter.unusedVariables false
set_option maxHeartbeats 4000000
def byteP (c : UInt8) : PV := .int .u8 c.toNat
def bufV (c : Nat) : List UInt8 → PV
  | [] => .nils
  | x :: l => .bsl 5 c (l.length + 1)
def bufM (c : Nat) : List UInt8 → Mem
  | [] => []
  | x :: l => [⟨c, .row 1 ((x :: l).map byteP) 0⟩]
theorem or192 : ∀ x ∈ List.range 64, bitop .or .u8 192 x = 192 + x := by decide +kernel
theorem or224 : ∀ x ∈ List.range 32, bitop .or .u8 224 x = 224 + x := by decide +kernel
theorem or240 : ∀ x ∈ List.range 16, bitop .or .u8 240 x = 240 + x := by decide +kernel
theorem or128 : ∀ x ∈ List.range 64, bitop .or .u8 128 x = 128 + x := by decide +kernel
theorem and63 : ∀ x ∈ List.range 256, bitop .and .u8 x 63 = x % 64 := by decide +kernel
theorem or192' {x : Int} (h0 : 0 ≤ x) (h1 : x < 64) : bitop .or .u8 192 x = 192 + x := by
  obtain ⟨n, rfl⟩ := Int.eq_ofNat_of_zero_le h0; exact or192 n (List.mem_range.2 (by omega))
theorem or224' {x : Int} (h0 : 0 ≤ x) (h1 : x < 32) : bitop .or .u8 224 x = 224 + x := by
  obtain ⟨n, rfl⟩ := Int.eq_ofNat_of_zero_le h0; exact or224 n (List.mem_range.2 (by omega))
theorem or240' {x : Int} (h0 : 0 ≤ x) (h1 : x < 16) : bitop .or .u8 240 x = 240 + x := by
  obtain ⟨n, rfl⟩ := Int.eq_ofNat_of_zero_le h0; exact or240 n (List.mem_range.2 (by omega))
theorem or128' {x : Int} (h0 : 0 ≤ x) (h1 : x < 64) : bitop .or .u8 128 x = 128 + x := by
  obtain ⟨n, rfl⟩ := Int.eq_ofNat_of_zero_le h0; exact or128 n (List.mem_range.2 (by omega))
theorem cont_byte (y : Int) : bitop .or .u8 128 (bitop .and .u8 (IntKind.u8.wrap y) 63) = 128 + y % 64 := by
  have h : bitop .and .u8 (IntKind.u8.wrap y) 63 = y % 64 := by
    rw [IntKind.wrap_u8]
    obtain ⟨n, hn⟩ := Int.eq_ofNat_of_zero_le (show 0 ≤ y % 256 by omega)
    rw [hn, and63 n (List.mem_range.2 (by omega))]
    omega
  rw [h, or128' (by omega) (by omega)]
theorem sh6 (r : Int) : r.fdiv (2 ^ min (Int.toNat 6) IntKind.i32.bits) = r / 64 := Int.fdiv_eq_ediv_of_nonneg r (by decide)
theorem sh12 (r : Int) : r.fdiv (2 ^ min (Int.toNat 12) IntKind.i32.bits) = r / 4096 := Int.fdiv_eq_ediv_of_nonneg r (by decide)
theorem sh18 (r : Int) : r.fdiv (2 ^ min (Int.toNat 18) IntKind.i32.bits) = r / 262144 := Int.fdiv_eq_ediv_of_nonneg r (by decide)
theorem bytes_enc (r : Int) : (Lib.encodeRune r).map byteP = (Lib.encodeRuneZ r).map (PV.int .u8) := by
  rw [Lib.encodeRune, List.map_map]
  apply List.map_congr_left
  intro x hx
  have := Lib.encodeRuneZ_byte r x hx
  simp only [Function.comp, byteP]
  congr 1
  simp
  omega
theorem enc_ne (r : Int) : Lib.encodeRune r ≠ [] := by
  have := Lib.encodeRuneZ_length r
  intro h
  have h2 : (Lib.encodeRune r).length = (Lib.encodeRuneZ r).length := by simp [Lib.encodeRune]
  rw [h] at h2; simp at h2; omega
abbrev GivesB (l : List UInt8) : PV → Mem → Prop := Gives (fun c : Nat => .bsl 5 c l.length) (fun c => [⟨c, .row 1 (l.map byteP) 0⟩]) (fun _ => True)
theorem gives_buf {l e : List UInt8} {σ : Mem} {b n : Nat} {es : List PV} (he : e ≠ []) (hes : es = l.map byteP ++ e.map byteP) (hn : n = es.length) (hσ : wkMem σ [⟨b, .row 1 es 0⟩]) :
    GivesB (l ++ e) (.bsl 5 b n) σ := by
  rw [← List.map_append] at hes
  subst hes
  exact ⟨b, trivial, by rw [hn]; simp, hσ⟩
theorem append_slow (c : Nat) (l : List UInt8) (r : Int) (hr : -2147483648 ≤ r ∧ r ≤ 2147483647) (h7 : r < 0 ∨ 127 < r) (hl : l.length + 8 ≤ 140737488355328) :
    ACalls Tryd.prog W 138 [bufV c l, .int .i32 r] (bufM c l) (GivesB (l ++ Lib.encodeRune r)) := by
  refine acalls_of_vc (drawOk W) Tryd.func138 rfl (by decide) (by decide) rfl ?_
  have hu : IntKind.u32.wrap r = r % 4294967296 := by rw [IntKind.wrap_u32]
  rcases l with _ | ⟨x, l⟩
  · refine g0_ ?_
    refine brec ?_; intro c_ h1; (try rw [h1]); cases c_ <;> replace h1 := nm_ h1
    · refine g0_ ?_
      refine brec ?_; intro c_ h2; (try rw [h2]); cases c_ <;> replace h2 := nm_ h2
      · refine g0_ ?_
        refine brec ?_; intro c_ h3; (try rw [h3]); cases c_ <;> replace h3 := nm_ h3
        · refine g0_ ?_
          refine brec ?_; intro c_ h4; (try rw [h4]); cases c_ <;> replace h4 := nm_ h4
          · refine g0_ ?_
            (repeat (refine Fits.wrap ?_; refine g0_ ?_))
            refine .inl ?_
            (refine g0_ ?_; repeat (refine n1_ fun b_ => ?_; refine g0_ ?_))
            refine gives_buf (enc_ne r) ?_ ?_ (wkMem.cons (.here _ _ _) (wkMem.nil _))
            · rw [bytes_enc]
              first
                | (rw [Lib.encodeRuneZ_two (by omega) (by omega)]; simp only [cont_byte, sh6]; rw [IntKind.wrap_u8, or192' (by omega) (by omega)]; simp [byteP]; omega)
                | (rw [Lib.encodeRuneZ_three (by omega)]; simp only [cont_byte, sh6, sh12]; rw [IntKind.wrap_u8, or224' (by omega) (by omega)]; simp [byteP]; omega)
                | (rw [Lib.encodeRuneZ_four (by omega) (by omega)]; simp only [cont_byte, sh6, sh12, sh18]; rw [IntKind.wrap_u8, or240' (by omega) (by omega)]; simp [byteP]; omega)
                | (rw [Lib.encodeRuneZ_bad (by omega)]; simp [byteP])
            · simp
          · refine g0_ ?_
            (repeat (refine Fits.wrap ?_; refine g0_ ?_))
            refine .inl ?_
            (refine g0_ ?_; repeat (refine n1_ fun b_ => ?_; refine g0_ ?_))
            refine gives_buf (enc_ne r) ?_ ?_ (wkMem.cons (.here _ _ _) (wkMem.nil _))
            · rw [bytes_enc]
              first
                | (rw [Lib.encodeRuneZ_two (by omega) (by omega)]; simp only [cont_byte, sh6]; rw [IntKind.wrap_u8, or192' (by omega) (by omega)]; simp [byteP]; omega)
                | (rw [Lib.encodeRuneZ_three (by omega)]; simp only [cont_byte, sh6, sh12]; rw [IntKind.wrap_u8, or224' (by omega) (by omega)]; simp [byteP]; omega)
                | (rw [Lib.encodeRuneZ_four (by omega) (by omega)]; simp only [cont_byte, sh6, sh12, sh18]; rw [IntKind.wrap_u8, or240' (by omega) (by omega)]; simp [byteP]; omega)
                | (rw [Lib.encodeRuneZ_bad (by omega)]; simp [byteP])
            · simp
        · refine g0_ ?_
          (repeat (refine Fits.wrap ?_; refine g0_ ?_))
          refine .inl ?_
          (refine g0_ ?_; repeat (refine n1_ fun b_ => ?_; refine g0_ ?_))
          refine gives_buf (enc_ne r) ?_ ?_ (wkMem.cons (.here _ _ _) (wkMem.nil _))
          · rw [bytes_enc]
            first
              | (rw [Lib.encodeRuneZ_two (by omega) (by omega)]; simp only [cont_byte, sh6]; rw [IntKind.wrap_u8, or192' (by omega) (by omega)]; simp [byteP]; omega)
              | (rw [Lib.encodeRuneZ_three (by omega)]; simp only [cont_byte, sh6, sh12]; rw [IntKind.wrap_u8, or224' (by omega) (by omega)]; simp [byteP]; omega)
              | (rw [Lib.encodeRuneZ_four (by omega) (by omega)]; simp only [cont_byte, sh6, sh12, sh18]; rw [IntKind.wrap_u8, or240' (by omega) (by omega)]; simp [byteP]; omega)
              | (rw [Lib.encodeRuneZ_bad (by omega)]; simp [byteP])
          · simp
      · refine g0_ ?_
        (repeat (refine Fits.wrap ?_; refine g0_ ?_))
        refine .inl ?_
        (refine g0_ ?_; repeat (refine n1_ fun b_ => ?_; refine g0_ ?_))
        refine gives_buf (enc_ne r) ?_ ?_ (wkMem.cons (.here _ _ _) (wkMem.nil _))
        · rw [bytes_enc]
          first
            | (rw [Lib.encodeRuneZ_two (by omega) (by omega)]; simp only [cont_byte, sh6]; rw [IntKind.wrap_u8, or192' (by omega) (by omega)]; simp [byteP]; omega)
            | (rw [Lib.encodeRuneZ_three (by omega)]; simp only [cont_byte, sh6, sh12]; rw [IntKind.wrap_u8, or224' (by omega) (by omega)]; simp [byteP]; omega)
            | (rw [Lib.encodeRuneZ_four (by omega) (by omega)]; simp only [cont_byte, sh6, sh12, sh18]; rw [IntKind.wrap_u8, or240' (by omega) (by omega)]; simp [byteP]; omega)
            | (rw [Lib.encodeRuneZ_bad (by omega)]; simp [byteP])
        · simp
    · refine g0_ ?_
      (repeat (refine Fits.wrap ?_; refine g0_ ?_))
      refine .inl ?_
      (refine g0_ ?_; repeat (refine n1_ fun b_ => ?_; refine g0_ ?_))
      refine gives_buf (enc_ne r) ?_ ?_ (wkMem.cons (.here _ _ _) (wkMem.nil _))
      · rw [bytes_enc]
        first
          | (rw [Lib.encodeRuneZ_two (by omega) (by omega)]; simp only [cont_byte, sh6]; rw [IntKind.wrap_u8, or192' (by omega) (by omega)]; simp [byteP]; omega)
          | (rw [Lib.encodeRuneZ_three (by omega)]; simp only [cont_byte, sh6, sh12]; rw [IntKind.wrap_u8, or224' (by omega) (by omega)]; simp [byteP]; omega)
          | (rw [Lib.encodeRuneZ_four (by omega) (by omega)]; simp only [cont_byte, sh6, sh12, sh18]; rw [IntKind.wrap_u8, or240' (by omega) (by omega)]; simp [byteP]; omega)
          | (rw [Lib.encodeRuneZ_bad (by omega)]; simp [byteP])
      · simp
  · simp only [List.length_cons] at hl
    refine g0_ ?_
    refine brec ?_; intro c_ h1; (try rw [h1]); cases c_ <;> replace h1 := nm_ h1
    · refine g0_ ?_
      refine brec ?_; intro c_ h2; (try rw [h2]); cases c_ <;> replace h2 := nm_ h2
      · refine g0_ ?_
        refine brec ?_; intro c_ h3; (try rw [h3]); cases c_ <;> replace h3 := nm_ h3
        · refine g0_ ?_
          refine brec ?_; intro c_ h4; (try rw [h4]); cases c_ <;> replace h4 := nm_ h4
          · refine g0_ ?_
            (repeat (refine Fits.wrap ?_; refine g0_ ?_))
            refine .inl ?_
            (refine g0_ ?_; repeat (refine n2_ fun b_ => ?_; refine g0_ ?_))
            refine gives_buf (enc_ne r) ?_ ?_ (wkMem.cons (.here _ _ _) (wkMem.nil _))
            · rw [bytes_enc]
              first
                | (rw [Lib.encodeRuneZ_two (by omega) (by omega)]; simp only [cont_byte, sh6]; rw [IntKind.wrap_u8, or192' (by omega) (by omega)]; simp [byteP]; omega)
                | (rw [Lib.encodeRuneZ_three (by omega)]; simp only [cont_byte, sh6, sh12]; rw [IntKind.wrap_u8, or224' (by omega) (by omega)]; simp [byteP]; omega)
                | (rw [Lib.encodeRuneZ_four (by omega) (by omega)]; simp only [cont_byte, sh6, sh12, sh18]; rw [IntKind.wrap_u8, or240' (by omega) (by omega)]; simp [byteP]; omega)
                | (rw [Lib.encodeRuneZ_bad (by omega)]; simp [byteP])
            · simp
          · refine g0_ ?_
            (repeat (refine Fits.wrap ?_; refine g0_ ?_))
            refine .inl ?_
            (refine g0_ ?_; repeat (refine n2_ fun b_ => ?_; refine g0_ ?_))
            refine gives_buf (enc_ne r) ?_ ?_ (wkMem.cons (.here _ _ _) (wkMem.nil _))
            · rw [bytes_enc]
              first
                | (rw [Lib.encodeRuneZ_two (by omega) (by omega)]; simp only [cont_byte, sh6]; rw [IntKind.wrap_u8, or192' (by omega) (by omega)]; simp [byteP]; omega)
                | (rw [Lib.encodeRuneZ_three (by omega)]; simp only [cont_byte, sh6, sh12]; rw [IntKind.wrap_u8, or224' (by omega) (by omega)]; simp [byteP]; omega)
                | (rw [Lib.encodeRuneZ_four (by omega) (by omega)]; simp only [cont_byte, sh6, sh12, sh18]; rw [IntKind.wrap_u8, or240' (by omega) (by omega)]; simp [byteP]; omega)
                | (rw [Lib.encodeRuneZ_bad (by omega)]; simp [byteP])
            · simp
        · refine g0_ ?_
          (repeat (refine Fits.wrap ?_; refine g0_ ?_))
          refine .inl ?_
          (refine g0_ ?_; repeat (refine n2_ fun b_ => ?_; refine g0_ ?_))
          refine gives_buf (enc_ne r) ?_ ?_ (wkMem.cons (.here _ _ _) (wkMem.nil _))
          · rw [bytes_enc]
            first
              | (rw [Lib.encodeRuneZ_two (by omega) (by omega)]; simp only [cont_byte, sh6]; rw [IntKind.wrap_u8, or192' (by omega) (by omega)]; simp [byteP]; omega)
              | (rw [Lib.encodeRuneZ_three (by omega)]; simp only [cont_byte, sh6, sh12]; rw [IntKind.wrap_u8, or224' (by omega) (by omega)]; simp [byteP]; omega)
              | (rw [Lib.encodeRuneZ_four (by omega) (by omega)]; simp only [cont_byte, sh6, sh12, sh18]; rw [IntKind.wrap_u8, or240' (by omega) (by omega)]; simp [byteP]; omega)
              | (rw [Lib.encodeRuneZ_bad (by omega)]; simp [byteP])
          · simp
      · refine g0_ ?_
        (repeat (refine Fits.wrap ?_; refine g0_ ?_))
        refine .inl ?_
        (refine g0_ ?_; repeat (refine n2_ fun b_ => ?_; refine g0_ ?_))
        refine gives_buf (enc_ne r) ?_ ?_ (wkMem.cons (.here _ _ _) (wkMem.nil _))
        · rw [bytes_enc]
          first
            | (rw [Lib.encodeRuneZ_two (by omega) (by omega)]; simp only [cont_byte, sh6]; rw [IntKind.wrap_u8, or192' (by omega) (by omega)]; simp [byteP]; omega)
            | (rw [Lib.encodeRuneZ_three (by omega)]; simp only [cont_byte, sh6, sh12]; rw [IntKind.wrap_u8, or224' (by omega) (by omega)]; simp [byteP]; omega)
            | (rw [Lib.encodeRuneZ_four (by omega) (by omega)]; simp only [cont_byte, sh6, sh12, sh18]; rw [IntKind.wrap_u8, or240' (by omega) (by omega)]; simp [byteP]; omega)
            | (rw [Lib.encodeRuneZ_bad (by omega)]; simp [byteP])
        · simp
    · refine g0_ ?_
      (repeat (refine Fits.wrap ?_; refine g0_ ?_))
      refine .inl ?_
      (refine g0_ ?_; repeat (refine n2_ fun b_ => ?_; refine g0_ ?_))
      refine gives_buf (enc_ne r) ?_ ?_ (wkMem.cons (.here _ _ _) (wkMem.nil _))
      · rw [bytes_enc]
        first
          | (rw [Lib.encodeRuneZ_two (by omega) (by omega)]; simp only [cont_byte, sh6]; rw [IntKind.wrap_u8, or192' (by omega) (by omega)]; simp [byteP]; omega)
          | (rw [Lib.encodeRuneZ_three (by omega)]; simp only [cont_byte, sh6, sh12]; rw [IntKind.wrap_u8, or224' (by omega) (by omega)]; simp [byteP]; omega)
          | (rw [Lib.encodeRuneZ_four (by omega) (by omega)]; simp only [cont_byte, sh6, sh12, sh18]; rw [IntKind.wrap_u8, or240' (by omega) (by omega)]; simp [byteP]; omega)
          | (rw [Lib.encodeRuneZ_bad (by omega)]; simp [byteP])
      · simp
theorem append_rune (c : Nat) (l : List UInt8) (r : Int) (hr : -2147483648 ≤ r ∧ r ≤ 2147483647) (hl : l.length + 8 ≤ 140737488355328) :
    ACalls Tryd.prog W 126 [bufV c l, .int .i32 r] (bufM c l) (GivesB (l ++ Lib.encodeRune r)) := by
  refine acalls_of_vc (drawOk W) Tryd.func126 rfl (by decide) (by decide) rfl ?_
  have hu : IntKind.u32.wrap r = r % 4294967296 := by rw [IntKind.wrap_u32]
  refine g0_ ?_
  refine brec ?_; intro c_ h1; (try rw [h1]); cases c_ <;> replace h1 := nm_ h1
  · rcases l with _ | ⟨x, l⟩
    · refine g0_ ?_
      refine ACalls.lend (append_slow W c [] r hr (by omega) hl) (r := []) (.refl _) ?_
      rintro c' -
      refine g0_ ?_
      exact ⟨c', trivial, rfl, wkMem.rfl'⟩
    · refine g0_ ?_
      refine ACalls.lend (append_slow W c (x :: l) r hr (by omega) hl) (r := []) (.refl _) ?_
      rintro c' -
      refine g0_ ?_
      exact ⟨c', trivial, rfl, wkMem.rfl'⟩
  · rcases l with _ | ⟨x, l⟩
    · refine g0_ ?_
      refine .inl ?_
      (refine g0_ ?_; repeat (refine n1_ fun b_ => ?_; refine g0_ ?_))
      refine gives_buf (enc_ne r) ?_ ?_ (wkMem.cons (.here _ _ _) (wkMem.nil _))
      · rw [bytes_enc, Lib.encodeRuneZ_one (by omega) (by omega)]; simp
      · simp
    · simp only [List.length_cons] at hl
      refine g0_ ?_
      refine .inl ?_
      (refine g0_ ?_; repeat (refine n2_ fun b_ => ?_; refine g0_ ?_))
      refine gives_buf (enc_ne r) ?_ ?_ (wkMem.cons (.here _ _ _) (wkMem.nil _))
      · rw [bytes_enc, Lib.encodeRuneZ_one (by omega) (by omega)]; simp
      · simp
theorem eql_nilptr {t e : TypeId} {xo yo : Operand} (ht : Tryd.prog.underlying t = some (.pointer e)) : EqLaw Tryd.prog .eql t xo yo (.lit (.pointer none)) (.lit (.pointer none)) true := by
  refine ⟨fun K w u v h1 h2 => ?_⟩
  cases h1; cases h2
  have hp : Tryd.prog.pointee t = e := by simp [Program.pointee, ht]
  have := run_eql_pointer_nil (P := Tryd.prog) w t none (by rw [hp]; exact ht)
  have e0 : (eqGuard .eql t xo yo (.pointer none) (.pointer none)).run Tryd.prog w = .ok () w := by simp [eqGuard]
  rw [Sem.run_bind, e0, Result.andThen_ok, this]; rfl
theorem eql_ptrnil {t e e' n b : TypeId} {xo yo : Operand} (ht : Tryd.prog.underlying t = some (.pointer e)) : EqLaw Tryd.prog .eql t xo yo (.tpt e' n b) (.lit (.pointer none)) false := by
  refine ⟨fun K w u v h1 h2 => ?_⟩
  cases h1; cases h2
  have hp : Tryd.prog.pointee t = e := by simp [Program.pointee, ht]
  have := run_eql_pointer_nil (P := Tryd.prog) w t (some ⟨b, 0, none⟩) (by rw [hp]; exact ht)
  have e0 : (eqGuard .eql t xo yo (.pointer (some ⟨b, 0, none⟩)) (.pointer none)).run Tryd.prog w = .ok () w := by simp [eqGuard]
  rw [Sem.run_bind, e0, Result.andThen_ok, this]; rfl
theorem neq_ptr {t e e' n b : TypeId} {xo yo : Operand} {j : TypeInfo} (ht : Tryd.prog.underlying t = some (.pointer e)) (hj : Tryd.prog.info? e = some j) : EqLaw Tryd.prog .neq t xo yo (.tpt e' n b) (.tpt e' n b) false := by
  refine ⟨fun K w u v h1 h2 => ?_⟩
  cases h1; cases h2
  have := Lib.run_neq_ptr_same (P := Tryd.prog) w ⟨b, 0, none⟩ ht hj
  have e0 : (eqGuard .neq t xo yo (.pointer (some ⟨b, 0, none⟩)) (.pointer (some ⟨b, 0, none⟩))).run Tryd.prog w = .ok () w := by simp [eqGuard]
  rw [Sem.run_bind, e0, Result.andThen_ok, this]
theorem noEscape (x : PV) : ExtLaw Tryd.prog 128 [x] x := by
  refine ⟨fun K w vs hl hr => ?_⟩
  obtain ⟨v, rfl⟩ := List.length_eq_one_iff.1 hl.symm
  have h0 := hr 0 (by simp)
  refine ⟨v, ?_, h0⟩
  show (callFunc 128 #[v]).run Tryd.prog w = _
  rw [run_callFunc_extern Tryd.func128 (by kernel_rfl) (by kernel_rfl) (by kernel_rfl) (e := Extern.AbiNoEscape.same) (by kernel_rfl)]
  rfl
def bldV (b : Nat) : PV := .tpt 136 2 b
def bldM0 (b : Nat) : Mem := [⟨b, .row 2 [.agg [.lit (.pointer none), .nils]] 0⟩]
def bldM1 (b : Nat) : Mem := [⟨b, .row 2 [.agg [bldV b, .nils]] 0⟩]
def bldM (b c : Nat) (l : List UInt8) : Mem := [⟨b, .row 2 [.agg [bldV b, .bsl 5 c l.length]] 0⟩, ⟨c, .row 1 (l.map byteP) 0⟩]
theorem copyCheck0 (b : Nat) : ACalls Tryd.prog W 112 [.tpt 136 2 b] (bldM0 b) (Gives (fun _ : Unit => .tup []) (fun _ => bldM1 b) (fun _ => True)) := by
  refine acalls_of_vc (drawOk W) Tryd.func112 rfl (by decide) (by decide) rfl ?_
  refine g0_ ?_
  refine ⟨_, eql_nilptr Tryd.underlying133, ?_⟩
  refine g0_ ?_
  refine ⟨_, noEscape _, ?_⟩
  refine g0_ ?_
  exact ⟨(), trivial, rfl, wkMem.rfl'⟩
theorem copyCheck2 (b c n : Nat) : ACalls Tryd.prog W 112 [.tpt 136 2 b] [⟨b, .row 2 [.agg [.tpt 136 2 b, .bsl 5 c n]] 0⟩] (Gives (fun _ : Unit => .tup []) (fun _ => [⟨b, .row 2 [.agg [.tpt 136 2 b, .bsl 5 c n]] 0⟩]) (fun _ => True)) := by
  refine acalls_of_vc (drawOk W) Tryd.func112 rfl (by decide) (by decide) rfl ?_
  refine g0_ ?_
  refine ⟨_, eql_ptrnil Tryd.underlying133, ?_⟩
  refine g0_ ?_
  refine ⟨_, neq_ptr Tryd.underlying133 (show Tryd.prog.info? 136 = some ((Tryd.prog.info? 136).getD default) by kernel_rfl), ?_⟩
  refine g0_ ?_
  exact ⟨(), trivial, rfl, wkMem.rfl'⟩
abbrev GivesW (b : Nat) (n : Int) (l : List UInt8) : PV → Mem → Prop := Gives (fun _ : Nat => .tup [.int .i64 n, .lit .nilIface]) (fun c => bldM b c l) (fun _ => True)
theorem writeRune0 (b : Nat) (r : Int) (hr : -2147483648 ≤ r ∧ r ≤ 2147483647) :
    ACalls Tryd.prog W 107 [.tpt 136 2 b, .int .i32 r] (bldM0 b) (GivesW b (Lib.encodeRune r).length (Lib.encodeRune r)) := by
  have hle : (Lib.encodeRune r).length ≤ 4 := by have := Lib.encodeRuneZ_length r; simpa [Lib.encodeRune] using this.2
  refine acalls_of_vc (drawOk W) Tryd.func107 rfl (by decide) (by decide) rfl ?_
  refine g0_ ?_
  refine ACalls.lend (copyCheck0 W b) (r := []) (by simp) ?_
  rintro _ -
  refine g0_ ?_
  refine ACalls.lend (append_rune W 0 [] r hr (by simp)) (r := bldM1 b) (.refl _) ?_
  rintro c' -
  rw [List.nil_append]
  refine g0_ ?_
  exact ⟨c', trivial, by rw [show (↑(Lib.encodeRune r).length - 0 : Int) = (Lib.encodeRune r).length by omega], wk_⟩
theorem bufV_ne (c : Nat) {l : List UInt8} (h : l ≠ []) : bufV c l = .bsl 5 c l.length := by cases l; exact absurd rfl h; rfl
theorem bufM_ne (c : Nat) {l : List UInt8} (h : l ≠ []) : bufM c l = [⟨c, .row 1 (l.map byteP) 0⟩] := by cases l; exact absurd rfl h; rfl
theorem writeRune2 (b c : Nat) (l : List UInt8) (h0 : l ≠ []) (r : Int) (hr : -2147483648 ≤ r ∧ r ≤ 2147483647) (hl : l.length + 8 ≤ 140737488355328) :
    ACalls Tryd.prog W 107 [.tpt 136 2 b, .int .i32 r] (bldM b c l) (GivesW b (Lib.encodeRune r).length (l ++ Lib.encodeRune r)) := by
  have hle : (Lib.encodeRune r).length ≤ 4 := by have := Lib.encodeRuneZ_length r; simpa [Lib.encodeRune] using this.2
  have hlen : (l ++ Lib.encodeRune r).length = l.length + (Lib.encodeRune r).length := List.length_append ..
  have ha := append_rune W c l r hr hl
  rw [bufV_ne c h0, bufM_ne c h0] at ha
  refine acalls_of_vc (drawOk W) Tryd.func107 rfl (by decide) (by decide) rfl ?_
  refine g0_ ?_
  refine ACalls.lend (copyCheck2 W b c l.length) (r := [⟨c, .row 1 (l.map byteP) 0⟩]) (.refl _) ?_
  rintro _ -
  refine g0_ ?_
  refine ACalls.lend ha (r := [⟨b, .row 2 [.agg [.tpt 136 2 b, .bsl 5 c l.length]] 0⟩]) (.swap _ _ _) ?_
  rintro c' -
  refine g0_ ?_
  exact ⟨c', trivial, by rw [show ((l ++ Lib.encodeRune r).length : Int) - (l.length : Nat) = (Lib.encodeRune r).length by omega], wk_⟩
def bldS (b c : Nat) : List UInt8 → Mem
  | [] => bldM0 b
  | x :: l => bldM b c (x :: l)
theorem bldS_ne (b c : Nat) {l : List UInt8} (h : l ≠ []) : bldS b c l = bldM b c l := by cases l; exact absurd rfl h; rfl
theorem writeRune_ok (b c : Nat) (l : List UInt8) (r : Int) (hr : -2147483648 ≤ r ∧ r ≤ 2147483647) (hl : l.length + 8 ≤ 140737488355328) :
    ACalls Tryd.prog W 107 [.tpt 136 2 b, .int .i32 r] (bldS b c l) (Gives (fun _ : Nat => .tup [.int .i64 (Lib.encodeRune r).length, .lit .nilIface]) (fun c => bldS b c (l ++ Lib.encodeRune r)) (fun _ => True)) := by
  have e : (fun c => bldS b c (l ++ Lib.encodeRune r)) = fun c => bldM b c (l ++ Lib.encodeRune r) := by funext c; exact bldS_ne b c (by simp [enc_ne])
  rw [e]
  by_cases h : l = []
  · subst h; exact writeRune0 W b r hr
  · rw [bldS_ne b c h]; exact writeRune2 W b c l h r hr hl
theorem string0 (b : Nat) : ACalls Tryd.prog W 92 [.tpt 136 2 b] (bldM0 b) (Gives (fun _ : Unit => .str []) (fun _ => []) (fun _ => True)) := by
  refine acalls_of_vc (drawOk W) Tryd.func92 rfl (by decide) (by decide) rfl ?_
  refine g0_ ?_
  refine Draws.head ⟨10, by decide +kernel, ?_⟩; refine g0_ ?_
  exact ⟨(), trivial, rfl, wkMem.nil _⟩
theorem string2 (b c : Nat) (l : List UInt8) (h0 : l ≠ []) (hl : l.length ≤ 140737488355328) : ACalls Tryd.prog W 92 [.tpt 136 2 b] (bldM b c l) (Gives (fun _ : Unit => .str l) (fun _ => []) (fun _ => True)) := by
  have hpos : 0 < l.length := List.length_pos_iff.2 h0
  refine acalls_of_vc (drawOk W) Tryd.func92 rfl (by decide) (by decide) rfl ?_
  refine g0_ ?_
  refine Draws.head ⟨10, by decide +kernel, ?_⟩; refine g0_ ?_
  refine StrAt.mk (l.map byteP) 0 _ l (.there _ _ _ _ _ (.here _ _ _)) rfl h0 (by omega) (show ptrTo Tryd.prog 157 = some 5 by kernel_rfl) (show Tryd.prog.underlying 5 = some (.int .u8) by kernel_rfl) (show Tryd.prog.cellsOf 5 = 1 by kernel_rfl) (by rw [List.take_of_length_le (by simp)]; rfl) ?_
  refine g0_ ?_
  exact ⟨(), trivial, rfl, wkMem.nil _⟩
theorem string_ok (b c : Nat) (l : List UInt8) (hl : l.length ≤ 140737488355328) : ACalls Tryd.prog W 92 [.tpt 136 2 b] (bldS b c l) (Gives (fun _ : Unit => .str l) (fun _ => []) (fun _ => True)) := by
  by_cases h : l = []
  · subst h; exact string0 W b
  · rw [bldS_ne b c h]; exact string2 W b c l h hl
theorem enc_utf8 (r : Int) : (Utf8.encode r).data.toList = Lib.encodeRune r := by
  by_cases hv : Utf8.valid r = true
  · have h := hv
    simp only [Utf8.valid, Bool.or_eq_true, Bool.and_eq_true, decide_eq_true_eq] at h
    obtain ⟨n, rfl⟩ := Int.eq_ofNat_of_zero_le (show 0 ≤ r by omega)
    unfold Utf8.encode Lib.encodeRune
    simp only [hv, if_true, Int.toNat_natCast]
    by_cases h1 : n < 128
    · rw [if_pos h1, Lib.encodeRuneZ_one (by omega) (by omega)]
      rfl
    rw [if_neg h1]
    by_cases h2 : n < 2048
    · rw [if_pos h2, Lib.encodeRuneZ_two (by omega) (by omega)]
      simp only [List.map_cons, List.map_nil]
      rw [show (192 + (n : Int) / 64).toNat = 192 + n / 64 by omega, show (128 + (n : Int) % 64).toNat = 128 + n % 64 by omega]
    rw [if_neg h2]
    by_cases h3 : n < 65536
    · rw [if_pos h3, Lib.encodeRuneZ_three (by omega)]
      simp only [List.map_cons, List.map_nil]
      rw [show (224 + (n : Int) / 4096).toNat = 224 + n / 4096 by omega, show (128 + (n : Int) / 64 % 64).toNat = 128 + n / 64 % 64 by omega, show (128 + (n : Int) % 64).toNat = 128 + n % 64 by omega]
    rw [if_neg h3, Lib.encodeRuneZ_four (by omega) (by omega)]
    simp only [List.map_cons, List.map_nil]
    rw [show (240 + (n : Int) / 262144).toNat = 240 + n / 262144 by omega, show (128 + (n : Int) / 4096 % 64).toNat = 128 + n / 4096 % 64 by omega, show (128 + (n : Int) / 64 % 64).toNat = 128 + n / 64 % 64 by omega, show (128 + (n : Int) % 64).toNat = 128 + n % 64 by omega]
  · have h : r < 0 ∨ (55296 ≤ r ∧ r ≤ 57343) ∨ 1114111 < r := by
      simp only [Utf8.valid, Bool.or_eq_true, Bool.and_eq_true, decide_eq_true_eq] at hv
      omega
    unfold Utf8.encode Lib.encodeRune
    rw [if_neg hv, Lib.encodeRuneZ_bad h]
    rfl
end Go.Eng.YtkenlcaifhffoaaDoor
end

/- Texts without what takes no cell; where runes stand: the plain law. -/
section
namespace Go.Eng.YtkenlcaifhffoaaDoor
open Go Go.Eng Go.Proofs
set_option linter.unusedSimpArgs false
set_option maxRecDepth 100000
def validR (r : Int) : Prop := (0 ≤ r ∧ r < 55296) ∨ (57344 ≤ r ∧ r ≤ 1114111)
theorem u8_nat (n : Nat) (h : n < 256) : (n.toUInt8).toNat = n := by simp; omega
theorem dec_enc (n : Nat) (hv : validR n) (t : List UInt8) : dec (Lib.encodeRune n ++ t) = (n, (Lib.encodeRune n).length) := by
  have hne : Lib.encodeRune n ++ t ≠ [] := by simp [enc_ne]
  rw [dec_N hne]
  unfold validR at hv
  unfold Lib.encodeRune
  by_cases h1 : n < 128
  · rw [Lib.encodeRuneZ_one (by omega) (by omega)]
    simp only [List.map_cons, List.map_nil, List.cons_append, List.nil_append, List.getD_cons_zero, List.getD_cons_succ, List.length_cons, List.length_nil]
    rw [show ((n : Int).toNat).toUInt8.toNat = n by rw [u8_nat _ (by omega)]; omega]
    unfold Lib.decodeN
    rw [if_pos h1]
  by_cases h2 : n < 2048
  · rw [Lib.encodeRuneZ_two (by omega) (by omega)]
    simp only [List.map_cons, List.map_nil, List.cons_append, List.nil_append, List.getD_cons_zero, List.getD_cons_succ, List.length_cons, List.length_nil]
    rw [show ((192 + (n : Int) / 64).toNat).toUInt8.toNat = 192 + n / 64 by rw [u8_nat _ (by omega)]; omega, show ((128 + (n : Int) % 64).toNat).toUInt8.toNat = 128 + n % 64 by rw [u8_nat _ (by omega)]; omega]
    unfold Lib.decodeN
    rw [if_neg (by omega), if_pos ⟨by omega, by omega, by omega⟩, if_pos (by omega)]
    congr 1; omega
  by_cases h3 : n < 65536
  · rw [Lib.encodeRuneZ_three (by omega)]
    simp only [List.map_cons, List.map_nil, List.cons_append, List.nil_append, List.getD_cons_zero, List.getD_cons_succ, List.length_cons, List.length_nil]
    rw [show ((224 + (n : Int) / 4096).toNat).toUInt8.toNat = 224 + n / 4096 by rw [u8_nat _ (by omega)]; omega, show ((128 + (n : Int) / 64 % 64).toNat).toUInt8.toNat = 128 + n / 64 % 64 by rw [u8_nat _ (by omega)]; omega,
      show ((128 + (n : Int) % 64).toNat).toUInt8.toNat = 128 + n % 64 by rw [u8_nat _ (by omega)]; omega]
    unfold Lib.decodeN
    rw [if_neg (by omega), if_neg (by omega), if_pos ⟨by omega, ⟨by omega, by omega⟩, by omega, by omega⟩, if_pos (by omega)]
    congr 1; omega
  rw [Lib.encodeRuneZ_four (by omega) (by omega)]
  simp only [List.map_cons, List.map_nil, List.cons_append, List.nil_append, List.getD_cons_zero, List.getD_cons_succ, List.length_cons, List.length_nil]
  rw [show ((240 + (n : Int) / 262144).toNat).toUInt8.toNat = 240 + n / 262144 by rw [u8_nat _ (by omega)]; omega, show ((128 + (n : Int) / 4096 % 64).toNat).toUInt8.toNat = 128 + n / 4096 % 64 by rw [u8_nat _ (by omega)]; omega,
    show ((128 + (n : Int) / 64 % 64).toNat).toUInt8.toNat = 128 + n / 64 % 64 by rw [u8_nat _ (by omega)]; omega, show ((128 + (n : Int) % 64).toNat).toUInt8.toNat = 128 + n % 64 by rw [u8_nat _ (by omega)]; omega]
  unfold Lib.decodeN
  rw [if_neg (by omega), if_neg (by omega), if_neg (by omega), if_pos ⟨by omega, ⟨by omega, by omega⟩, ⟨by omega, by omega⟩, by omega, by omega⟩, if_pos (by omega)]
  congr 1; omega
theorem runes_enc (n : Nat) (hv : validR n) (t : List UInt8) : runes (Lib.encodeRune n ++ t) = (n, (Lib.encodeRune n).length) :: runes t := by
  rw [runes_cons (by simp [enc_ne]), dec_enc n hv t]
  simp
theorem valid_of_width {r : Int} (h : 0 < widthL r) : validR r := by
  unfold widthL at h
  unfold validR
  split at h
  · cases h
  · rename_i h1
    simp only [not_or, Bool.not_eq_true] at h1
    obtain ⟨h1, h2, h3⟩ := h1
    have : ¬ (55296 ≤ r ∧ r ≤ 57343) := by
      intro h4
      rw [Bool.eq_false_iff] at h3
      apply h3
      simp [withinL, noneS]
      omega
    omega
def cleanRs : List (Nat × Nat) → List UInt8
  | [] => []
  | p :: l => if 0 < widthL p.1 then Lib.encodeRune p.1 ++ cleanRs l else cleanRs l
def cleanL (s : List UInt8) : List UInt8 := cleanRs (runes s)
def columnsRs : Nat → List (Nat × Nat) → List Nat
  | _, [] => []
  | x, p :: l => if 0 < widthL p.1 then x :: columnsRs (x + widthL p.1) l else columnsRs x l
def columnsL (s : List UInt8) : List Nat := columnsRs 0 (runes s)
theorem enc_le (r : Int) : (Lib.encodeRune r).length ≤ 4 := by have := Lib.encodeRuneZ_length r; simpa [Lib.encodeRune] using this.2
theorem cleanRs_len : ∀ l, (cleanRs l).length ≤ 4 * l.length
  | [] => by simp [cleanRs]
  | p :: l => by
    have h := cleanRs_len l
    have h2 := enc_le p.1
    rw [cleanRs]
    split <;> simp <;> omega
def keptRs (l : List (Nat × Nat)) : List (Nat × Nat) := (l.filter fun p => decide (0 < widthL p.1)).map fun p => (p.1, (Lib.encodeRune p.1).length)
theorem runes_clean : ∀ l : List (Nat × Nat), runes (cleanRs l) = keptRs l
  | [] => by rw [cleanRs, runes_nil]; rfl
  | p :: l => by
    rw [cleanRs]
    split
    · rename_i h
      rw [runes_enc p.1 (valid_of_width h), runes_clean l]
      simp [keptRs, List.filter_cons, h]
    · rename_i h
      rw [runes_clean l]
      simp [keptRs, List.filter_cons, h]
end Go.Eng.YtkenlcaifhffoaaDoor
end

/- Texts without what takes no cell; where runes stand: walks. -/
section
namespace Go.Eng.YtkenlcaifhffoaaDoor
open Go Go.Eng Go.Proofs
variable (W : World)
set_option linter.unusedSimpArgs false
set_option maxRecDepth 100000
set_option linter.unusedVariables false
set_option maxHeartbeats 4000000
theorem clean_len (s : List UInt8) : (cleanL s).length ≤ 4 * s.length := by
  have h1 := cleanRs_len (runes s)
  have h2 : ∀ s : List UInt8, (runes s).length ≤ s.length := by
    refine runes_ind (by simp [runes_nil]) fun s h ih => ?_
    have := dec_pos s h
    have := List.length_pos_iff.2 h
    rw [runes_cons h]
    simp at ih ⊢; omega
  have := h2 s
  unfold cleanL; omega
theorem dec_range (s : List UInt8) : (dec s).1 ≤ 1114111 := by
  by_cases h : s = []
  · subst h; decide +kernel
  · rw [dec_N h]
    unfold Lib.decodeN
    (repeat' split) <;> dsimp only <;> omega
theorem cleanL_cons {s : List UInt8} (h : s ≠ []) : cleanL s = (if 0 < widthL (dec s).1 then Lib.encodeRune (dec s).1 ++ cleanL (s.drop (dec s).2) else cleanL (s.drop (dec s).2)) := by rw [cleanL, runes_cons h]; rfl
theorem cleanL_nil : cleanL [] = [] := by rw [cleanL, runes_nil]; rfl
theorem clean_ok (hT : Tabs W) (s : List UInt8) (hs : s.length ≤ 1048576000) : Pure Tryd.prog W 81 [.str s] (.str (cleanL s)) := by
  have hcl := clean_len s
  refine Pure.of (acalls_of_vc (drawOk W) Tryd.func81 rfl (by decide) (by decide) rfl ?_)
  (refine g0_ ?_; repeat (refine n1_ fun b_ => ?_; refine g0_ ?_))
  refine' loopI (α := (List UInt8) × Nat × (List UInt8)) (fun (r, c, a) => [(0, .str r)]) [(3, _)] (fun (r, c, a) => bldS b_ c a) (fun (r, c, a) => a ++ cleanL r = cleanL s ∧ r.length ≤ s.length) (fun (r, c, a) => r.length) (s, 0, []) ?_ ?_
  · exact ⟨rfl, Nat.le_refl _⟩
  rintro ⟨r, c, a⟩ ⟨hn, hl⟩
  have hal : a.length ≤ (cleanL s).length := by rw [← hn]; simp
  refine g0_ ?_
  refine brec ?_; intro c_ h; (try rw [h]); cases c_ <;> replace h := nm_ h
  · subst h
    refine g0_ ?_
    refine ACalls.lend (string_ok W b_ c a (by omega)) (r := []) (by simp) ?_
    rintro _ -
    rw [cleanL_nil, List.append_nil] at hn
    rw [hn]
    refine g0_ ?_
    exact .refl _
  · have hd := dec_le r
    have hp := dec_pos r h
    have h3 : 0 < r.length := List.length_pos_iff.2 h
    have hw := cleanL_cons h
    have hn2 := nextL_of h
    have hr := dec_range r
    refine g0_ ?_
    refine (next_ok W hT r).use ?_; refine g0_ ?_
    refine (width_ok W _).use ?_; refine g0_ ?_
    rw [hn2]
    refine g0_ ?_
    refine brec ?_; intro c_ h2; (try rw [h2]); cases c_ <;> replace h2 := nm_ h2
    · rw [if_neg (by omega)] at hw
      refine g0_ ?_
      refine nx_ (r.drop (dec r).2, c, a) ?_ ?_
      · exact ⟨by rw [← hn, hw], by ((try dsimp only); (try simp only [List.length_drop, List.length_take, List.length_append, List.length_cons, List.length_nil, List.length_map] at *); omega)⟩
      · ((try dsimp only); (try simp only [List.length_drop, List.length_take, List.length_append, List.length_cons, List.length_nil, List.length_map] at *); omega)
    · rw [if_pos (by omega)] at hw
      refine g0_ ?_
      refine ACalls.lend (writeRune_ok W b_ c a (dec r).1 (by omega) (by omega)) (r := []) (by simp) ?_
      rintro c' -
      refine g0_ ?_
      refine nx_ (r.drop (dec r).2, c', a ++ Lib.encodeRune (dec r).1) ?_ ?_
      · exact ⟨by rw [← hn, hw, List.append_assoc], by ((try dsimp only); (try simp only [List.length_drop, List.length_take, List.length_append, List.length_cons, List.length_nil, List.length_map] at *); omega)⟩
      · ((try dsimp only); (try simp only [List.length_drop, List.length_take, List.length_append, List.length_cons, List.length_nil, List.length_map] at *); omega)
def numE (n : Nat) : PV := .int .i64 n
/-! ### The document's -/
def spotsRs : Nat → List (Nat × Nat) → List (Nat × Nat)
  | _, [] => []
  | x, p :: l => if 0 < widthL p.1 then (p.1, x) :: spotsRs (x + widthL p.1) l else spotsRs x l
def encSpot (p : Nat × Nat) : PV := .agg [.int .i32 p.1, .int .i64 p.2]
end Go.Eng.YtkenlcaifhffoaaDoor
end
