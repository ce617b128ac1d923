/- Texts put together: Itoa, Style, Style2, Style3. -/
import Derived.Test.YtmodblkagimhlaaDoorME3
import Derived.Test.YtmodblkagimhlaaDoorMH1
import Derived.Lib.ItoaLen
/- strconv.Itoa. -/
section
namespace Go.Eng.YtmodblkagimhlaaDoor
open Go Go.Eng Go.Proofs
variable (W : World)
set_option linter.unusedSimpArgs false
set_option maxRecDepth 100000
set_option linter.unusedVariables false
set_option maxHeartbeats 4000000
abbrev Nums (W : World) : Prop := Lib.TabIs Tryd.prog W "internal/strconv.uint64pow10" .u64 Lib.pow10Tab
theorem nums_at {W w : World} (h : Nums W) (hs : ∀ b, b < W.heap.size → w.heap[b]? = W.heap[b]?) : Nums w := by
  unfold Nums Lib.TabIs at *
  unfold World.var? at *
  cases hg : Tryd.prog.globalNamed "internal/strconv.uint64pow10" with
  | none => rw [hg] at h; simp at h
  | some g =>
    rw [hg] at h
    simp only [Option.bind_some] at h ⊢
    have hlt : g < W.heap.size := by
      cases hb : W.heap[g]? with
      | none => simp [hb] at h
      | some o => exact (Array.getElem?_eq_some_iff.1 hb).1
    rw [hs g hlt]; exact h
theorem itoa_ok (hN : Nums W) (n : Int) (hn : i64ok n) : Pure Tryd.prog W 56 [.int .i64 n] (.str (Lib.itoa n)) :=
  Pure.of_below Tryd.func56 rfl (by decide) rfl rfl fun w _ hw => (Tryd.strconv_Itoa n hn.1 hn.2 w (nums_at hN hw)).mono fun _ _ h => ⟨h.1, by
    obtain ⟨k, os, rfl⟩ := h.2
    refine ⟨rfl, rfl, rfl, by show w.heap.size ≤ (w.heap ++ os).size; simp, fun b hb => ?_⟩
    show (w.heap ++ os)[b]? = _
    exact Array.getElem?_append_left hb⟩
end Go.Eng.YtmodblkagimhlaaDoor
end

/- Styles: package style's Check, bits, Apply. -/
section
namespace Go.Eng.YtmodblkagimhlaaDoor
open Go Go.Eng Go.Proofs
variable (W : World)
set_option linter.unusedSimpArgs false
set_option maxRecDepth 100000
set_option linter.unusedVariables false
set_option maxHeartbeats 4000000
structure Style where
  fore : Int
  back : Int
  bits : Int
  deriving DecidableEq
def encStyle (s : Style) : PV := .agg [.int .i64 s.fore, .int .i64 s.back, .int .i64 s.bits]
def Style.ok (s : Style) : Prop := i64ok s.fore ∧ i64ok s.back ∧ i64ok s.bits
def Style.none : Style := ⟨0, 0, 0⟩
def checkStyle (s : Style) : Bool := decide (0 ≤ s.fore) && decide (s.fore ≤ 256) && decide (0 ≤ s.back) && decide (s.back ≤ 256) && decide (0 ≤ s.bits) && decide (s.bits < 128)
/-- The bits that a number sets, and clears. -/
def bitsF (n : Int) : Int × Int :=
  if n = 1 then (1, 0) else if n = 2 then (2, 0) else if n = 3 then (4, 0) else if n = 4 then (8, 0) else if n = 5 then (16, 0) else if n = 7 then (32, 0) else if n = 9 then (64, 0)
  else if n = 22 then (0, 3) else if n = 23 then (0, 4) else if n = 24 then (0, 8) else if n = 25 then (0, 16) else if n = 27 then (0, 32) else if n = 29 then (0, 64) else (0, 0)
def Style.mask (s : Style) (n : Int) : Style := { s with bits := bitop .or .i64 (bitop .andNot .i64 s.bits (bitsF n).2) (bitsF n).1 }
/-- One number. -/
def Style.num (s : Style) (n : Int) : Style :=
  if n ≤ 0 then .none
  else if 30 ≤ n ∧ n ≤ 37 then { s with fore := n - 29 }
  else if n = 39 then { s with fore := 0 }
  else if 40 ≤ n ∧ n ≤ 47 then { s with back := n - 39 }
  else if n = 49 then { s with back := 0 }
  else if 90 ≤ n ∧ n ≤ 97 then { s with fore := n - 81 }
  else if 100 ≤ n ∧ n ≤ 107 then { s with back := n - 91 }
  else s
def Style.colour (s : Style) (n c : Int) : Style := if c < 0 ∨ 256 ≤ c then s else if n = 38 then { s with fore := c + 1 } else { s with back := c + 1 }
/-- Numbers, one after the other. -/
def applyL : Style → List Int → Style
  | s, [] => s
  | s, [n] => (s.mask n).num n
  | s, [n, m] => applyL ((s.mask n).num n) [m]
  | s, n :: m :: c :: r => if (n = 38 ∨ n = 48) ∧ m = 5 then applyL ((s.mask n).colour n c) r else applyL ((s.mask n).num n) (m :: c :: r)
def applyTo (s : Style) (l : List Int) : Style := if l = [] then .none else applyL s l
end Go.Eng.YtmodblkagimhlaaDoor
end

/- Styles: package style's Apply. -/
section
namespace Go.Eng.YtmodblkagimhlaaDoor
open Go Go.Eng Go.Proofs
variable (W : World)
set_option linter.unusedSimpArgs false
set_option maxRecDepth 100000
set_option linter.unusedVariables false
set_option maxHeartbeats 4000000
end Go.Eng.YtmodblkagimhlaaDoor
end

/- strconv.Itoa, strings.Join; package style's Write; the fact that the laws look at first. -/
section
namespace Go.Eng.YtmodblkagimhlaaDoor
open Go Go.Eng Go.Proofs
variable (W : World)
set_option linter.unusedSimpArgs false
set_option maxRecDepth 100000
set_option linter.unusedVariables false
set_option maxHeartbeats 4000000
theorem join_ok (xs : List (List UInt8)) (sep : List UInt8) (hx : xs.length ≤ 140737488355328) (hlen : (Lib.join xs sep).length ≤ 140737488355328) :
    Pure Tryd.prog W 57 [.sl 1 (xs.map PV.str), .str sep] (.str (Lib.join xs sep)) := by
  refine ⟨⟨_, Tryd.func57, rfl, by decide⟩, fun K w vs hl hv hm hp => ?_⟩
  obtain ⟨v0, v1, rfl⟩ : ∃ v0 v1, vs = [v0, v1] := by
    match vs, hl with
    | [a, b], _ => exact ⟨a, b, rfl⟩
  clear hl
  have h0 := hv 0 (by simp)
  have h1 := hv 1 (by simp)
  simp only [List.getD_cons_zero, List.getD_cons_succ] at h0 h1
  cases h1
  clear hv
  have key : Calls Tryd.prog 57 #[v0, .string ⟨sep.toArray⟩] w fun e w' => e = .returned (.string ⟨(Lib.join xs sep).toArray⟩) ∧ RowKit.Below w.heap.size w w' := by
    generalize hxs : xs.map PV.str = es at h0
    cases h0 with
    | sl0 _ a cap =>
      have : xs = [] := by cases xs with | nil => rfl | cons a l => simp at hxs
      subst this
      exact (Tryd.strings_Join_none a cap ⟨sep.toArray⟩ w).mono fun _ _ h => ⟨h.1, h.2 ▸ RowKit.Below.refl _ _⟩
    | sl _ _ b o cap hcap vs hz hk hv =>
      subst hxs
      by_cases hx0 : xs = []
      · subst hx0
        exact (Tryd.strings_Join_none _ cap ⟨sep.toArray⟩ w).mono fun _ _ h => ⟨h.1, h.2 ▸ RowKit.Below.refl _ _⟩
      have hpos : 0 < xs.length := List.length_pos_iff.2 hx0
      have hcell : ∀ j, j < xs.length → w.cell? ⟨b, o + j, none⟩ = some (.string ⟨(xs.getD j []).toArray⟩) := fun j hj => by
        have h2 := hk j 0 (by simpa using hj) (by omega)
        have h3 := hv j 0 (by simpa using hj) (by omega)
        have e1 : ((xs.map PV.str).getD j .dead).flat.getD 0 .dead = .str (xs.getD j []) := by simp [List.getD_eq_getElem?_getD, hj, PV.flat]
        rw [e1] at h3
        have h4 := h2.2
        rw [Nat.mul_one, Nat.add_zero] at h4
        rw [h4]
        generalize vs j 0 = u at h3
        cases h3; rfl
      have hb : b < w.heap.size := by
        have := hcell 0 hpos
        simp only [World.cell?] at this
        cases hb : w.heap[b]? with
        | none => simp [hb] at this
        | some o => exact (Array.getElem?_eq_some_iff.1 hb).1
      have hmap : (xs.map fun x => (⟨x.toArray⟩ : ByteArray)).map (·.data.toList) = xs := by simp [List.map_map, Function.comp_def]
      have := Tryd.strings_Join b o cap (xs.map fun x => ⟨x.toArray⟩) ⟨sep.toArray⟩ w (fun j x hj => by
        simp only [List.getElem?_map, Option.map_eq_some_iff] at hj
        obtain ⟨y, hy, rfl⟩ := hj
        have hlt := (List.getElem?_eq_some_iff.1 hy).1
        rw [hcell j hlt]
        simp [List.getD_eq_getElem?_getD, hy]) hb (by simpa using hx) (by simpa using hcap) (by rw [hmap]; exact hlen)
      rw [hmap] at this
      simpa using this
  refine key.mono ?_
  rintro e w' ⟨he, hb⟩
  exact ⟨_, .str (Lib.join xs sep), [], K, he, rfl, .str _, ⟨fun b o h => Nat.lt_of_lt_of_le (hm.kin b o h) hb.size, by simp, fun k hk => by cases hk⟩, Ext.of_below hb hm.kin⟩
end Go.Eng.YtmodblkagimhlaaDoor
end
