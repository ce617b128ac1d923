/- Texts put together: BndL, BndA, BndC, BndW. -/
import Derived.Test.YtbaokhehnilneaaGreatDoorMKY4
import Derived.Lib.Join
import Derived.Test.YtbaokhehnilneaaGreatDoorMS1
import Derived.Lib.IndexAny
import Derived.Test.YtbaokhehnilneaaGreatDoorMKY7
import Derived.Test.YtbaokhehnilneaaGreatDoorMT1
/- Keys that are commands (plain). -/
section
namespace Go.Eng.YtbaokhehnilneaaGreatDoor
open Go Go.Eng Go.Proofs
set_option linter.unusedSimpArgs false
set_option maxRecDepth 100000
set_option linter.unusedVariables false
set_option maxHeartbeats 4000000
/-! ### Words -/
structure WS where
  out : List (List UInt8)
  word : List UInt8
  some : Bool
  quoted : Bool
def stepWd (x : WS) (c : UInt8) : WS :=
  if c = 39 then ⟨x.out, x.word, true, !x.quoted⟩
  else if c = 32 ∧ x.quoted = false then ⟨if x.some then x.out ++ [x.word] else x.out, [], false, x.quoted⟩
  else ⟨x.out, x.word ++ [c], true, x.quoted⟩
def runW (s : List UInt8) : WS := s.foldl stepWd ⟨[], [], false, false⟩
def endW (x : WS) : List (List UInt8) := if x.some then x.out ++ [x.word] else x.out
/-- The words of a command, and what is wrong. -/
def wordsB (s : List UInt8) : List (List UInt8) × Int :=
  if 4000 < s.length then ([], 2) else if (runW s).quoted then ([], 1) else (endW (runW s), 0)
def quoteW (w : List UInt8) : List UInt8 := if w = [] ∨ 32 ∈ w then [39] ++ w ++ [39] else w
/-- Words joined. -/
def joinB (l : List (List UInt8)) : List UInt8 := Lib.join (l.map quoteW) [32]
theorem step_run : ∀ (w : List UInt8) (x : WS), (¬ 39 ∈ w) → (x.quoted = true ∨ ¬ 32 ∈ w) → w.foldl stepWd x = ⟨x.out, x.word ++ w, x.some || !w.isEmpty, x.quoted⟩
  | [], x, _, _ => by simp
  | c :: w, x, h1, h2 => by
    have h1' : c ≠ 39 ∧ ¬ 39 ∈ w := ⟨fun e => h1 (by simp [e]), fun e => h1 (by simp [e])⟩
    have e : stepWd x c = ⟨x.out, x.word ++ [c], true, x.quoted⟩ := by
      unfold stepWd
      rw [if_neg h1'.1, if_neg]
      rintro ⟨h3, h4⟩
      rcases h2 with h2 | h2
      · rw [h2] at h4; cases h4
      · exact h2 (by simp [h3])
    rw [List.foldl_cons, e, step_run w _ h1'.2 (by
      rcases h2 with h2 | h2
      · exact .inl h2
      · exact .inr fun h3 => h2 (by simp [h3]))]
    simp
/-! ### Tables -/
structure Bnd where
  k : Key
  cmd : List UInt8
  deriving DecidableEq
structure BTab where
  pre : Key
  binds : List Bnd
  deriving DecidableEq
def encBnd (b : Bnd) : PV := .agg [.int .i64 b.k.kind, .int .i32 b.k.r, .int .i64 b.k.n, .int .i64 b.k.held, .str b.cmd]
def encTab (t : BTab) : PV := .agg [.int .i64 t.pre.kind, .int .i32 t.pre.r, .int .i64 t.pre.n, .int .i64 t.pre.held, .sl 5 (t.binds.map encBnd)]
def checkB : List Key → List Bnd → Int
  | _, [] => 0
  | seen, b :: l => if ¬ isKey b.k then 5 else if b.k ∈ seen then 7 else if (wordsB b.cmd).2 ≠ 0 then (wordsB b.cmd).2 else checkB (seen ++ [b.k]) l
def checkT (t : BTab) : Int := if ¬ isKey t.pre then 5 else if 20 < t.binds.length then 2 else checkB [] t.binds
/-! ### Struck -/
structure SS where
  cmds : List (List UInt8)
  bytes : List UInt8
  armed : Bool
def tellK (k : Key) (pad : Bool) : List UInt8 := if isKey k then writeK k pad else []
def cmdsK (t : BTab) (k : Key) : List (List UInt8) := (t.binds.filter fun b => decide (b.k = k)).map (·.cmd)
def stepSt (t : BTab) (pad : Bool) (x : SS) (k : Key) : SS :=
  if x.armed then (if k = t.pre then ⟨x.cmds, x.bytes ++ tellK k pad, false⟩ else ⟨x.cmds ++ cmdsK t k, x.bytes, false⟩)
  else if k = t.pre then ⟨x.cmds, x.bytes, true⟩
  else ⟨x.cmds, x.bytes ++ tellK k pad, false⟩
def runK2 (t : BTab) (pad : Bool) (l : List Key) (armed : Bool) : SS := l.foldl (stepSt t pad) ⟨[], [], armed⟩
theorem run_snoc {t : BTab} {pad : Bool} {l : List Key} {a : Bool} {i : Nat} {k : Key} (h : l[i]? = some k) : runK2 t pad (l.take (i + 1)) a = stepSt t pad (runK2 t pad (l.take i) a) k := by
  rw [List.take_add_one, h, runK2, List.foldl_append]
  rfl
end Go.Eng.YtbaokhehnilneaaGreatDoor
end

/- Keys that are commands: words, parted and joined (b_ x_ q_ e_). -/
section
namespace Go.Eng.YtbaokhehnilneaaGreatDoor
open Go Go.Eng Go.Proofs
variable (W : World)
set_option linter.unusedSimpArgs false
set_option maxRecDepth 100000
set_option linter.unusedVariables false
set_option maxHeartbeats 8000000
theorem u8_one (b : UInt8) : [(b.toNat : Int)].map (fun n => UInt8.ofNat n.toNat) = [b] := by simp
theorem strs_all1 (l : List (List UInt8)) : (l.map PV.str).all cellsB = true := by simp [cellsB, PV.flat, cellB]
theorem bwords_ok (s : List UInt8) (hs : s.length ≤ 140737488355328) : Pure Tryz.prog W 20 [.str s] (.tup [.sl 1 ((wordsB s).1.map .str), .int .i64 (wordsB s).2]) := by
  by_cases h4 : 4000 < s.length
  · have e : wordsB s = ([], 2) := if_pos h4
    rw [e]
    refine Pure.of (acalls_of_vc (drawOk W) Tryz.func20 rfl (by decide) (by decide) rfl ?_)
    (refine g0_ ?_; repeat ((first | refine n1_ fun b_ => ?_ | refine n2_ fun b_ => ?_ | refine Nat1.mk fun q_ hq_ => ?_ | refine em_ fun x_ hx_ => ?_ | refine Elem1.mk fun e_ he_ => ?_); refine g0_ ?_))
    (refine g1_ ?_; repeat ((first | refine n1_ fun b_ => ?_ | refine n2_ fun b_ => ?_ | refine Nat1.mk fun q_ hq_ => ?_ | refine em_ fun x_ hx_ => ?_ | refine Elem1.mk fun e_ he_ => ?_); refine g1_ ?_))
    exact frz_tup2 (.nils 1) (.refl _)
  · have hE : wordsB s = if (runW s).quoted then ([], 1) else (endW (runW s), 0) := if_neg h4
    unfold runW at hE
    refine Pure.of (acalls_of_vc (drawOk W) Tryz.func20 rfl (by decide) (by decide) rfl ?_)
    (refine g0_ ?_; repeat ((first | refine n1_ fun b_ => ?_ | refine n2_ fun b_ => ?_ | refine Nat1.mk fun q_ hq_ => ?_ | refine em_ fun x_ hx_ => ?_ | refine Elem1.mk fun e_ he_ => ?_); refine g0_ ?_))
    (refine g1_ ?_; repeat ((first | refine n1_ fun b_ => ?_ | refine n2_ fun b_ => ?_ | refine Nat1.mk fun q_ hq_ => ?_ | refine em_ fun x_ hx_ => ?_ | refine Elem1.mk fun e_ he_ => ?_); refine g1_ ?_))
    refine' loopI (α := Nat × (List (List UInt8)) × (List PV) × (List UInt8) × Bool × Bool × Nat) (fun (i, o, a, w, sm, q, b) => [(15, .int .i64 i), (4, accV b 1 a), (5, .str w), (6, .bool sm), (7, .bool q)]) [(0, _), (14, _)] (fun (i, o, a, w, sm, q, b) => accM b 1 a) (fun (i, o, a, w, sm, q, b) => i ≤ s.length ∧ (s.take i).foldl stepWd ⟨[], [], false, false⟩ = ⟨o, w, sm, q⟩ ∧ w.length + o.length ≤ i ∧ a = o.map .str) (fun (i, o, a, w, sm, q, b) => s.length - i) (0, [], [], [], false, false, 0) ?_ ?_
    · exact ⟨Nat.zero_le _, rfl, Nat.le_refl _, rfl⟩
    rintro ⟨i, o, a, w, sm, q, b⟩ ⟨hi, hr, hl, rfl⟩
    rcases o with _ | ⟨o0, o⟩
    · by_cases h1 : i = s.length
      · subst h1
        rw [List.take_length] at hr
        (refine g0_ ?_; repeat ((first | refine n1_ fun b_ => ?_ | refine n2_ fun b_ => ?_ | refine Nat1.mk fun q_ hq_ => ?_ | refine em_ fun x_ hx_ => ?_ | refine Elem1.mk fun e_ he_ => ?_); refine g0_ ?_))
        (refine g1_ ?_; repeat ((first | refine n1_ fun b_ => ?_ | refine n2_ fun b_ => ?_ | refine Nat1.mk fun q_ hq_ => ?_ | refine em_ fun x_ hx_ => ?_ | refine Elem1.mk fun e_ he_ => ?_); refine g1_ ?_))
        rw [hr] at hE
        dsimp only at hE
        cases q
        · rw [if_neg (by decide)] at hE
          rw [hE]
          unfold endW
          dsimp only
          cases sm
          · rw [if_neg (by decide)]
            (refine g1_ ?_; repeat ((first | refine n1_ fun b_ => ?_ | refine n2_ fun b_ => ?_ | refine Nat1.mk fun q_ hq_ => ?_ | refine em_ fun x_ hx_ => ?_ | refine Elem1.mk fun e_ he_ => ?_); refine g1_ ?_))
            exact frz_tup2 (.nils 1) (.refl _)
          · rw [if_pos rfl, List.map_append]
            (refine g1_ ?_; repeat ((first | refine n1_ fun b_ => ?_ | refine n2_ fun b_ => ?_ | refine Nat1.mk fun q_ hq_ => ?_ | refine em_ fun x_ hx_ => ?_ | refine Elem1.mk fun e_ he_ => ?_); refine g1_ ?_))
            refine .inl ?_
            (refine g1_ ?_; repeat ((first | refine n1_ fun b_ => ?_ | refine n2_ fun b_ => ?_ | refine Nat1.mk fun q_ hq_ => ?_ | refine em_ fun x_ hx_ => ?_ | refine Elem1.mk fun e_ he_ => ?_); refine g1_ ?_))
            exact frz_tup2 (frz_row (.here _ _ _) _ (by simp only [List.length_append, List.length_map, List.length_cons, List.length_nil])) (.refl _)
        · rw [if_pos rfl] at hE
          rw [hE]
          (refine g1_ ?_; repeat ((first | refine n1_ fun b_ => ?_ | refine n2_ fun b_ => ?_ | refine Nat1.mk fun q_ hq_ => ?_ | refine em_ fun x_ hx_ => ?_ | refine Elem1.mk fun e_ he_ => ?_); refine g1_ ?_))
          exact frz_tup2 (.nils 1) (.refl _)
      · obtain ⟨x, hx⟩ : ∃ x, s[i]? = some x := ⟨s[i]'(by omega), List.getElem?_eq_getElem _⟩
        have hxl := x.toNat_lt
        (refine g0_ ?_; repeat ((first | refine n1_ fun b_ => ?_ | refine n2_ fun b_ => ?_ | refine Nat1.mk fun q_ hq_ => ?_ | refine em_ fun x_ hx_ => ?_ | refine Elem1.mk fun e_ he_ => ?_); refine g0_ ?_))
        (refine g1_ ?_; repeat ((first | refine n1_ fun b_ => ?_ | refine n2_ fun b_ => ?_ | refine Nat1.mk fun q_ hq_ => ?_ | refine em_ fun x_ hx_ => ?_ | refine Elem1.mk fun e_ he_ => ?_); refine g1_ ?_))
        have hr' : (s.take (i + 1)).foldl stepWd ⟨[], [], false, false⟩ = stepWd ⟨[], w, sm, q⟩ x := by rw [take_snoc_of hx, List.foldl_append, hr]; rfl
        by_cases c39 : x = 39
        · subst c39
          have e : stepWd ⟨[], w, sm, q⟩ 39 = ⟨[], w, true, !q⟩ := rfl
          rw [e] at hr'
          (refine g0_ ?_; repeat ((first | refine n1_ fun b_ => ?_ | refine n2_ fun b_ => ?_ | refine Nat1.mk fun q_ hq_ => ?_ | refine em_ fun x_ hx_ => ?_ | refine Elem1.mk fun e_ he_ => ?_); refine g0_ ?_))
          rw [hx] at he_
          obtain rfl := Option.some.inj he_
          (refine g1_ ?_; repeat ((first | refine n1_ fun b_ => ?_ | refine n2_ fun b_ => ?_ | refine Nat1.mk fun q_ hq_ => ?_ | refine em_ fun x_ hx_ => ?_ | refine Elem1.mk fun e_ he_ => ?_); refine g1_ ?_))
          refine nx_ (i + 1, [], List.map PV.str [], w, true, !q, 0) ?_ ?_
          · exact ⟨by omega, hr', by (try simp only [List.length_cons] at hl ⊢); omega, by simp⟩
          · ((try dsimp only); (try simp only [List.length_drop, List.length_take, List.length_append, List.length_cons, List.length_nil, List.length_map] at *); omega)
        · have n39 : (x.toNat : Int) ≠ 39 := fun e => c39 (by apply UInt8.toNat_inj.1; show x.toNat = 39; omega)
          by_cases c32 : x = 32 ∧ q = false
          · obtain ⟨rfl, rfl⟩ := c32
            have e : stepWd ⟨[], w, sm, false⟩ 32 = ⟨if sm then [] ++ [w] else [], [], false, false⟩ := rfl
            rw [e] at hr'
            clear n39 c39
            cases sm
            · (refine g0_ ?_; repeat ((first | refine n1_ fun b_ => ?_ | refine n2_ fun b_ => ?_ | refine Nat1.mk fun q_ hq_ => ?_ | refine em_ fun x_ hx_ => ?_ | refine Elem1.mk fun e_ he_ => ?_); refine g0_ ?_))
              rw [hx] at he_
              obtain rfl := Option.some.inj he_
              (refine g1_ ?_; repeat ((first | refine n1_ fun b_ => ?_ | refine n2_ fun b_ => ?_ | refine Nat1.mk fun q_ hq_ => ?_ | refine em_ fun x_ hx_ => ?_ | refine Elem1.mk fun e_ he_ => ?_); refine g1_ ?_))
              refine nx_ (i + 1, [], List.map PV.str [], [], false, false, 0) ?_ ?_
              · exact ⟨by omega, hr', by (try simp only [List.length_cons, List.length_nil] at hl ⊢); omega, by simp⟩
              · ((try dsimp only); (try simp only [List.length_drop, List.length_take, List.length_append, List.length_cons, List.length_nil, List.length_map] at *); omega)
            · (refine g0_ ?_; repeat ((first | refine n1_ fun b_ => ?_ | refine n2_ fun b_ => ?_ | refine Nat1.mk fun q_ hq_ => ?_ | refine em_ fun x_ hx_ => ?_ | refine Elem1.mk fun e_ he_ => ?_); refine g0_ ?_))
              rw [hx] at he_
              obtain rfl := Option.some.inj he_
              (refine g1_ ?_; repeat ((first | refine n1_ fun b_ => ?_ | refine n2_ fun b_ => ?_ | refine Nat1.mk fun q_ hq_ => ?_ | refine em_ fun x_ hx_ => ?_ | refine Elem1.mk fun e_ he_ => ?_); refine g1_ ?_))
              refine .inl ?_
              (refine g1_ ?_; repeat ((first | refine n1_ fun b_ => ?_ | refine n2_ fun b_ => ?_ | refine Nat1.mk fun q_ hq_ => ?_ | refine em_ fun x_ hx_ => ?_ | refine Elem1.mk fun e_ he_ => ?_); refine g1_ ?_))
              refine nx_ (i + 1, [] ++ [w], List.map PV.str [] ++ [PV.str w], [], false, false, b_) ?_ ?_
              · exact ⟨by omega, hr', by (try simp only [List.length_cons, List.length_append, List.length_nil] at hl ⊢); omega, by simp⟩
              · ((try dsimp only); (try simp only [List.length_drop, List.length_take, List.length_append, List.length_cons, List.length_nil, List.length_map] at *); omega)
          · have e : stepWd ⟨[], w, sm, q⟩ x = ⟨[], w ++ [x], true, q⟩ := by
              unfold stepWd
              rw [if_neg c39, if_neg c32]
            rw [e] at hr'
            have n32 : (x.toNat : Int) = 32 → q = true := fun e => by
              cases q
              · exact absurd ⟨by apply UInt8.toNat_inj.1; show x.toNat = 32; omega, rfl⟩ c32
              · rfl
            clear c32 c39
            by_cases d32 : (x.toNat : Int) = 32
            · obtain rfl := n32 d32
              clear n32
              (refine g0_ ?_; repeat ((first | refine n1_ fun b_ => ?_ | refine n2_ fun b_ => ?_ | refine Nat1.mk fun q_ hq_ => ?_ | refine em_ fun x_ hx_ => ?_ | refine Elem1.mk fun e_ he_ => ?_); refine g0_ ?_))
              rw [hx] at he_
              obtain rfl := Option.some.inj he_
              (refine g1_ ?_; repeat ((first | refine n1_ fun b_ => ?_ | refine n2_ fun b_ => ?_ | refine Nat1.mk fun q_ hq_ => ?_ | refine em_ fun x_ hx_ => ?_ | refine Elem1.mk fun e_ he_ => ?_); refine g1_ ?_))
              refine .inl ?_
              (refine g1_ ?_; repeat ((first | refine n1_ fun b_ => ?_ | refine n2_ fun b_ => ?_ | refine Nat1.mk fun q_ hq_ => ?_ | refine em_ fun x_ hx_ => ?_ | refine Elem1.mk fun e_ he_ => ?_); refine g1_ ?_))
              refine ⟨[(x.toNat : Int)], rfl, ?_⟩
              rw [u8_one]
              (refine g1_ ?_; repeat ((first | refine n1_ fun b_ => ?_ | refine n2_ fun b_ => ?_ | refine Nat1.mk fun q_ hq_ => ?_ | refine em_ fun x_ hx_ => ?_ | refine Elem1.mk fun e_ he_ => ?_); refine g1_ ?_))
              refine nx_ (i + 1, [], List.map PV.str [], w ++ [x], true, true, 0) ?_ ?_
              · exact ⟨by omega, hr', by (try simp only [List.length_cons, List.length_append, List.length_nil] at hl ⊢); omega, by simp⟩
              · ((try dsimp only); (try simp only [List.length_drop, List.length_take, List.length_append, List.length_cons, List.length_nil, List.length_map] at *); omega)
            · clear n32
              (refine g0_ ?_; repeat ((first | refine n1_ fun b_ => ?_ | refine n2_ fun b_ => ?_ | refine Nat1.mk fun q_ hq_ => ?_ | refine em_ fun x_ hx_ => ?_ | refine Elem1.mk fun e_ he_ => ?_); refine g0_ ?_))
              rw [hx] at he_
              obtain rfl := Option.some.inj he_
              (refine g1_ ?_; repeat ((first | refine n1_ fun b_ => ?_ | refine n2_ fun b_ => ?_ | refine Nat1.mk fun q_ hq_ => ?_ | refine em_ fun x_ hx_ => ?_ | refine Elem1.mk fun e_ he_ => ?_); refine g1_ ?_))
              refine .inl ?_
              (refine g1_ ?_; repeat ((first | refine n1_ fun b_ => ?_ | refine n2_ fun b_ => ?_ | refine Nat1.mk fun q_ hq_ => ?_ | refine em_ fun x_ hx_ => ?_ | refine Elem1.mk fun e_ he_ => ?_); refine g1_ ?_))
              refine ⟨[(x.toNat : Int)], rfl, ?_⟩
              rw [u8_one]
              (refine g1_ ?_; repeat ((first | refine n1_ fun b_ => ?_ | refine n2_ fun b_ => ?_ | refine Nat1.mk fun q_ hq_ => ?_ | refine em_ fun x_ hx_ => ?_ | refine Elem1.mk fun e_ he_ => ?_); refine g1_ ?_))
              refine nx_ (i + 1, [], List.map PV.str [], w ++ [x], true, q, 0) ?_ ?_
              · exact ⟨by omega, hr', by (try simp only [List.length_cons, List.length_append, List.length_nil] at hl ⊢); omega, by simp⟩
              · ((try dsimp only); (try simp only [List.length_drop, List.length_take, List.length_append, List.length_cons, List.length_nil, List.length_map] at *); omega)
    · have ho := strs_all1 o
      have hol : (o.map PV.str).length = o.length := List.length_map _
      simp only [List.length_cons] at hl
      by_cases h1 : i = s.length
      · subst h1
        rw [List.take_length] at hr
        (refine g0_ ?_; repeat ((first | refine n1_ fun b_ => ?_ | refine n2_ fun b_ => ?_ | refine Nat1.mk fun q_ hq_ => ?_ | refine em_ fun x_ hx_ => ?_ | refine Elem1.mk fun e_ he_ => ?_); refine g0_ ?_))
        (refine g1_ ?_; repeat ((first | refine n1_ fun b_ => ?_ | refine n2_ fun b_ => ?_ | refine Nat1.mk fun q_ hq_ => ?_ | refine em_ fun x_ hx_ => ?_ | refine Elem1.mk fun e_ he_ => ?_); refine g1_ ?_))
        rw [hr] at hE
        dsimp only at hE
        cases q
        · rw [if_neg (by decide)] at hE
          rw [hE]
          unfold endW
          dsimp only
          cases sm
          · rw [if_neg (by decide)]
            (refine g1_ ?_; repeat ((first | refine n1_ fun b_ => ?_ | refine n2_ fun b_ => ?_ | refine Nat1.mk fun q_ hq_ => ?_ | refine em_ fun x_ hx_ => ?_ | refine Elem1.mk fun e_ he_ => ?_); refine g1_ ?_))
            exact frz_tup2 (frz_row (.here _ _ _) _ (by simp)) (.refl _)
          · rw [if_pos rfl, List.map_append]
            (refine g1_ ?_; repeat ((first | refine n1_ fun b_ => ?_ | refine n2_ fun b_ => ?_ | refine Nat1.mk fun q_ hq_ => ?_ | refine em_ fun x_ hx_ => ?_ | refine Elem1.mk fun e_ he_ => ?_); refine g1_ ?_))
            refine .inl ?_
            (refine g1_ ?_; repeat ((first | refine n1_ fun b_ => ?_ | refine n2_ fun b_ => ?_ | refine Nat1.mk fun q_ hq_ => ?_ | refine em_ fun x_ hx_ => ?_ | refine Elem1.mk fun e_ he_ => ?_); refine g1_ ?_))
            exact frz_tup2 (frz_row (.here _ _ _) _ (by simp only [List.length_append, List.length_map, List.length_cons, List.length_nil])) (.refl _)
        · rw [if_pos rfl] at hE
          rw [hE]
          (refine g1_ ?_; repeat ((first | refine n1_ fun b_ => ?_ | refine n2_ fun b_ => ?_ | refine Nat1.mk fun q_ hq_ => ?_ | refine em_ fun x_ hx_ => ?_ | refine Elem1.mk fun e_ he_ => ?_); refine g1_ ?_))
          exact frz_tup2 (.nils 1) (.refl _)
      · obtain ⟨x, hx⟩ : ∃ x, s[i]? = some x := ⟨s[i]'(by omega), List.getElem?_eq_getElem _⟩
        have hxl := x.toNat_lt
        (refine g0_ ?_; repeat ((first | refine n1_ fun b_ => ?_ | refine n2_ fun b_ => ?_ | refine Nat1.mk fun q_ hq_ => ?_ | refine em_ fun x_ hx_ => ?_ | refine Elem1.mk fun e_ he_ => ?_); refine g0_ ?_))
        (refine g1_ ?_; repeat ((first | refine n1_ fun b_ => ?_ | refine n2_ fun b_ => ?_ | refine Nat1.mk fun q_ hq_ => ?_ | refine em_ fun x_ hx_ => ?_ | refine Elem1.mk fun e_ he_ => ?_); refine g1_ ?_))
        have hr' : (s.take (i + 1)).foldl stepWd ⟨[], [], false, false⟩ = stepWd ⟨(o0 :: o), w, sm, q⟩ x := by rw [take_snoc_of hx, List.foldl_append, hr]; rfl
        by_cases c39 : x = 39
        · subst c39
          have e : stepWd ⟨(o0 :: o), w, sm, q⟩ 39 = ⟨(o0 :: o), w, true, !q⟩ := rfl
          rw [e] at hr'
          (refine g0_ ?_; repeat ((first | refine n1_ fun b_ => ?_ | refine n2_ fun b_ => ?_ | refine Nat1.mk fun q_ hq_ => ?_ | refine em_ fun x_ hx_ => ?_ | refine Elem1.mk fun e_ he_ => ?_); refine g0_ ?_))
          rw [hx] at he_
          obtain rfl := Option.some.inj he_
          (refine g1_ ?_; repeat ((first | refine n1_ fun b_ => ?_ | refine n2_ fun b_ => ?_ | refine Nat1.mk fun q_ hq_ => ?_ | refine em_ fun x_ hx_ => ?_ | refine Elem1.mk fun e_ he_ => ?_); refine g1_ ?_))
          refine nx_ (i + 1, (o0 :: o), List.map PV.str (o0 :: o), w, true, !q, b) ?_ ?_
          · exact ⟨by omega, hr', by (try simp only [List.length_cons] at hl ⊢); omega, by simp⟩
          · ((try dsimp only); (try simp only [List.length_drop, List.length_take, List.length_append, List.length_cons, List.length_nil, List.length_map] at *); omega)
        · have n39 : (x.toNat : Int) ≠ 39 := fun e => c39 (by apply UInt8.toNat_inj.1; show x.toNat = 39; omega)
          by_cases c32 : x = 32 ∧ q = false
          · obtain ⟨rfl, rfl⟩ := c32
            have e : stepWd ⟨(o0 :: o), w, sm, false⟩ 32 = ⟨if sm then (o0 :: o) ++ [w] else (o0 :: o), [], false, false⟩ := rfl
            rw [e] at hr'
            clear n39 c39
            cases sm
            · (refine g0_ ?_; repeat ((first | refine n1_ fun b_ => ?_ | refine n2_ fun b_ => ?_ | refine Nat1.mk fun q_ hq_ => ?_ | refine em_ fun x_ hx_ => ?_ | refine Elem1.mk fun e_ he_ => ?_); refine g0_ ?_))
              rw [hx] at he_
              obtain rfl := Option.some.inj he_
              (refine g1_ ?_; repeat ((first | refine n1_ fun b_ => ?_ | refine n2_ fun b_ => ?_ | refine Nat1.mk fun q_ hq_ => ?_ | refine em_ fun x_ hx_ => ?_ | refine Elem1.mk fun e_ he_ => ?_); refine g1_ ?_))
              refine nx_ (i + 1, (o0 :: o), List.map PV.str (o0 :: o), [], false, false, b) ?_ ?_
              · exact ⟨by omega, hr', by (try simp only [List.length_cons, List.length_nil] at hl ⊢); omega, by simp⟩
              · ((try dsimp only); (try simp only [List.length_drop, List.length_take, List.length_append, List.length_cons, List.length_nil, List.length_map] at *); omega)
            · (refine g0_ ?_; repeat ((first | refine n1_ fun b_ => ?_ | refine n2_ fun b_ => ?_ | refine Nat1.mk fun q_ hq_ => ?_ | refine em_ fun x_ hx_ => ?_ | refine Elem1.mk fun e_ he_ => ?_); refine g0_ ?_))
              rw [hx] at he_
              obtain rfl := Option.some.inj he_
              (refine g1_ ?_; repeat ((first | refine n1_ fun b_ => ?_ | refine n2_ fun b_ => ?_ | refine Nat1.mk fun q_ hq_ => ?_ | refine em_ fun x_ hx_ => ?_ | refine Elem1.mk fun e_ he_ => ?_); refine g1_ ?_))
              refine .inl ?_
              (refine g1_ ?_; repeat ((first | refine n1_ fun b_ => ?_ | refine n2_ fun b_ => ?_ | refine Nat1.mk fun q_ hq_ => ?_ | refine em_ fun x_ hx_ => ?_ | refine Elem1.mk fun e_ he_ => ?_); refine g1_ ?_))
              refine nx_ (i + 1, (o0 :: o) ++ [w], List.map PV.str (o0 :: o) ++ [PV.str w], [], false, false, b_) ?_ ?_
              · exact ⟨by omega, hr', by (try simp only [List.length_cons, List.length_append, List.length_nil] at hl ⊢); omega, by simp⟩
              · ((try dsimp only); (try simp only [List.length_drop, List.length_take, List.length_append, List.length_cons, List.length_nil, List.length_map] at *); omega)
          · have e : stepWd ⟨(o0 :: o), w, sm, q⟩ x = ⟨(o0 :: o), w ++ [x], true, q⟩ := by
              unfold stepWd
              rw [if_neg c39, if_neg c32]
            rw [e] at hr'
            have n32 : (x.toNat : Int) = 32 → q = true := fun e => by
              cases q
              · exact absurd ⟨by apply UInt8.toNat_inj.1; show x.toNat = 32; omega, rfl⟩ c32
              · rfl
            clear c32 c39
            by_cases d32 : (x.toNat : Int) = 32
            · obtain rfl := n32 d32
              clear n32
              (refine g0_ ?_; repeat ((first | refine n1_ fun b_ => ?_ | refine n2_ fun b_ => ?_ | refine Nat1.mk fun q_ hq_ => ?_ | refine em_ fun x_ hx_ => ?_ | refine Elem1.mk fun e_ he_ => ?_); refine g0_ ?_))
              rw [hx] at he_
              obtain rfl := Option.some.inj he_
              (refine g1_ ?_; repeat ((first | refine n1_ fun b_ => ?_ | refine n2_ fun b_ => ?_ | refine Nat1.mk fun q_ hq_ => ?_ | refine em_ fun x_ hx_ => ?_ | refine Elem1.mk fun e_ he_ => ?_); refine g1_ ?_))
              refine .inl ?_
              (refine g1_ ?_; repeat ((first | refine n1_ fun b_ => ?_ | refine n2_ fun b_ => ?_ | refine Nat1.mk fun q_ hq_ => ?_ | refine em_ fun x_ hx_ => ?_ | refine Elem1.mk fun e_ he_ => ?_); refine g1_ ?_))
              refine ⟨[(x.toNat : Int)], rfl, ?_⟩
              rw [u8_one]
              (refine g1_ ?_; repeat ((first | refine n1_ fun b_ => ?_ | refine n2_ fun b_ => ?_ | refine Nat1.mk fun q_ hq_ => ?_ | refine em_ fun x_ hx_ => ?_ | refine Elem1.mk fun e_ he_ => ?_); refine g1_ ?_))
              refine nx_ (i + 1, (o0 :: o), List.map PV.str (o0 :: o), w ++ [x], true, true, b) ?_ ?_
              · exact ⟨by omega, hr', by (try simp only [List.length_cons, List.length_append, List.length_nil] at hl ⊢); omega, by simp⟩
              · ((try dsimp only); (try simp only [List.length_drop, List.length_take, List.length_append, List.length_cons, List.length_nil, List.length_map] at *); omega)
            · clear n32
              (refine g0_ ?_; repeat ((first | refine n1_ fun b_ => ?_ | refine n2_ fun b_ => ?_ | refine Nat1.mk fun q_ hq_ => ?_ | refine em_ fun x_ hx_ => ?_ | refine Elem1.mk fun e_ he_ => ?_); refine g0_ ?_))
              rw [hx] at he_
              obtain rfl := Option.some.inj he_
              (refine g1_ ?_; repeat ((first | refine n1_ fun b_ => ?_ | refine n2_ fun b_ => ?_ | refine Nat1.mk fun q_ hq_ => ?_ | refine em_ fun x_ hx_ => ?_ | refine Elem1.mk fun e_ he_ => ?_); refine g1_ ?_))
              refine .inl ?_
              (refine g1_ ?_; repeat ((first | refine n1_ fun b_ => ?_ | refine n2_ fun b_ => ?_ | refine Nat1.mk fun q_ hq_ => ?_ | refine em_ fun x_ hx_ => ?_ | refine Elem1.mk fun e_ he_ => ?_); refine g1_ ?_))
              refine ⟨[(x.toNat : Int)], rfl, ?_⟩
              rw [u8_one]
              (refine g1_ ?_; repeat ((first | refine n1_ fun b_ => ?_ | refine n2_ fun b_ => ?_ | refine Nat1.mk fun q_ hq_ => ?_ | refine em_ fun x_ hx_ => ?_ | refine Elem1.mk fun e_ he_ => ?_); refine g1_ ?_))
              refine nx_ (i + 1, (o0 :: o), List.map PV.str (o0 :: o), w ++ [x], true, q, b) ?_ ?_
              · exact ⟨by omega, hr', by (try simp only [List.length_cons, List.length_append, List.length_nil] at hl ⊢); omega, by simp⟩
              · ((try dsimp only); (try simp only [List.length_drop, List.length_take, List.length_append, List.length_cons, List.length_nil, List.length_map] at *); omega)
end Go.Eng.YtbaokhehnilneaaGreatDoor
end

/- Keys that are commands: tables, checked (b_ x_ q_ e_). -/
section
namespace Go.Eng.YtbaokhehnilneaaGreatDoor
open Go Go.Eng Go.Proofs Go.Maps
variable (W : World)
set_option linter.unusedSimpArgs false
set_option maxRecDepth 100000
set_option linter.unusedVariables false
set_option maxHeartbeats 8000000
def BTab.ok (t : BTab) : Prop := t.pre.ok ∧ (∀ b ∈ t.binds, b.k.ok ∧ b.cmd.length ≤ 140737488355328) ∧ t.binds.length ≤ 17592186044416
def seenEs (l : List Key) : List (PV × PV) := l.map fun k => (encKey k, .bool true)
theorem keys_seen (l : List Key) (h : ∀ k ∈ l, k.ok) : KeysAre Tryz.prog 23 (seenEs l) (l.map valK) := by
  refine ⟨by simp [seenEs], fun j hj => ?_⟩
  unfold seenEs at *
  rw [List.length_map] at hj
  have e1 : (l.map fun k => (encKey k, PV.bool true)).getD j (.dead, .dead) = (encKey l[j], .bool true) := by simp [List.getD_eq_getElem?_getD, hj]
  have e2 : (l.map valK).getD j undef = valK l[j] := by simp [List.getD_eq_getElem?_getD, hj]
  rw [e1, e2]
  exact keyIs_key _ (h _ (List.getElem_mem hj))
theorem ins_seen {l : List Key} {k : Key} (h : ∀ k ∈ l, k.ok) (hk : k.ok) (hn : k ∉ l) : InsLaw Tryz.prog 50 (seenEs l) (encKey k) (.bool true) (seenEs (l ++ [k])) := by
  have e : seenEs (l ++ [k]) = seenEs l ++ [(encKey k, .bool true)] := by simp [seenEs]
  rw [e]
  refine insLaw_key (et := 4) (v := .bool true) keyed_key (show Tryz.prog.underlying 50 = _ by kernel_rfl) (keys_seen l h) (keyIs_key k hk) fun hm => ?_
  obtain ⟨q, hq, e⟩ := List.mem_map.1 hm
  exact hn (valK_inj e ▸ hq)
theorem look_seen {b : Nat} {σ r : Mem} {l : List Key} (hl : Look σ b (.mpc (seenEs l)) r) (h : ∀ k ∈ l, k.ok) (hu : l.Nodup) (k : Key) (hk : k.ok) : LookLaw Tryz.prog 50 (.mp b) (encKey k) false σ (.bool (decide (k ∈ l))) := by
  by_cases hm : k ∈ l
  · rw [decide_eq_true hm]
    obtain ⟨j, hj⟩ := List.mem_iff_getElem?.1 hm
    refine lookLaw_some (et := 4) (j := j) keyed_key hl (show Tryz.prog.underlying 50 = _ by kernel_rfl) (keys_seen l h) (keyIs_key k hk) (by rw [List.getElem?_map, hj]; rfl) (fun m hm2 => ?_) ?_
    · rw [List.getElem?_map] at hm2
      cases hb : l[m]? with
      | none => rw [hb] at hm2; cases hm2
      | some q =>
        rw [hb] at hm2
        have e := valK_inj (Option.some.inj hm2)
        obtain ⟨h1, e1⟩ := List.getElem?_eq_some_iff.1 hb
        obtain ⟨h2, e2⟩ := List.getElem?_eq_some_iff.1 hj
        rcases Nat.lt_trichotomy m j with h | h | h
        · exact absurd (by rw [e1, e2, e]) (List.pairwise_iff_getElem.1 hu m j h1 h2 h)
        · exact h
        · exact absurd (by rw [e1, e2, e]) (List.pairwise_iff_getElem.1 hu j m h2 h1 h)
    · have hjl := (List.getElem?_eq_some_iff.1 hj).1
      simp [seenEs, List.getD_eq_getElem?_getD, hjl]
  · rw [decide_eq_false hm]
    refine lookLaw_none (et := 4) (z := .bool false) (i0 := (Tryz.prog.info? 4).getD default) keyed_key hl (show Tryz.prog.underlying 50 = _ by kernel_rfl) (by kernel_rfl) (by kernel_rfl) (keys_seen l h) (keyIs_key k hk) ?_
    intro hm2
    obtain ⟨q, hq, e⟩ := List.mem_map.1 hm2
    exact hm (valK_inj e ▸ hq)
def keysB (l : List Bnd) : List Key := l.map (·.k)
theorem keysB_snoc {l : List Bnd} {i : Nat} {b : Bnd} (h : l[i]? = some b) : keysB (l.take (i + 1)) = keysB (l.take i) ++ [b.k] := by
  rw [take_snoc_of h, keysB, List.map_append]
  rfl
theorem keysB_ok {l : List Bnd} (h : ∀ b ∈ l, b.k.ok ∧ b.cmd.length ≤ 140737488355328) (i : Nat) : ∀ k ∈ keysB (l.take i), k.ok := by
  intro k hk
  obtain ⟨b, hb, rfl⟩ := List.mem_map.1 hk
  exact (h b (List.mem_of_mem_take hb)).1
theorem bcheck_ok (t : BTab) (hok : t.ok) : Pure Tryz.prog W 9 [encTab t] (.int .i64 (checkT t)) := by
  obtain ⟨pre, L⟩ := t
  obtain ⟨hp, hL, hlen⟩ := hok
  have hc : Pure Tryz.prog W 19 [.agg [.int .i64 pre.kind, .int .i32 pre.r, .int .i64 pre.n, .int .i64 pre.held]] (.bool (decide (isKey pre))) := kcheck_ok W pre
  have hlm : (L.map encBnd).length = L.length := List.length_map _
  unfold encTab
  dsimp only at *
  by_cases h1 : isKey pre
  · rw [decide_eq_true h1] at hc
    by_cases h2 : 20 < L.length
    · have e : checkT ⟨pre, L⟩ = 2 := by unfold checkT; rw [if_neg (by simpa using h1), if_pos h2]
      rw [e]
      refine Pure.of (acalls_of_vc (drawOk W) Tryz.func9 rfl (by decide) (by decide) rfl ?_)
      (refine g0_ ?_; repeat ((first | refine n1_ fun b_ => ?_ | refine n2_ fun b_ => ?_ | refine Nat1.mk fun q_ hq_ => ?_ | refine em_ fun x_ hx_ => ?_ | refine Elem1.mk fun e_ he_ => ?_); refine g0_ ?_))
      refine (hc).use ?_; (refine g0_ ?_; repeat ((first | refine n1_ fun b_ => ?_ | refine n2_ fun b_ => ?_ | refine Nat1.mk fun q_ hq_ => ?_ | refine em_ fun x_ hx_ => ?_ | refine Elem1.mk fun e_ he_ => ?_); refine g0_ ?_))
      (refine g1_ ?_; repeat ((first | refine n1_ fun b_ => ?_ | refine n2_ fun b_ => ?_ | refine Nat1.mk fun q_ hq_ => ?_ | refine em_ fun x_ hx_ => ?_ | refine Elem1.mk fun e_ he_ => ?_); refine g1_ ?_))
      exact .refl _
    · have e : checkT ⟨pre, L⟩ = checkB [] L := by unfold checkT; rw [if_neg (by simpa using h1), if_neg h2]
      rw [e]
      generalize hR : checkB [] L = R
      refine Pure.of (acalls_of_vc (drawOk W) Tryz.func9 rfl (by decide) (by decide) rfl ?_)
      (refine g0_ ?_; repeat ((first | refine n1_ fun b_ => ?_ | refine n2_ fun b_ => ?_ | refine Nat1.mk fun q_ hq_ => ?_ | refine em_ fun x_ hx_ => ?_ | refine Elem1.mk fun e_ he_ => ?_); refine g0_ ?_))
      refine (hc).use ?_; (refine g0_ ?_; repeat ((first | refine n1_ fun b_ => ?_ | refine n2_ fun b_ => ?_ | refine Nat1.mk fun q_ hq_ => ?_ | refine em_ fun x_ hx_ => ?_ | refine Elem1.mk fun e_ he_ => ?_); refine g0_ ?_))
      (refine g1_ ?_; repeat ((first | refine n1_ fun b_ => ?_ | refine n2_ fun b_ => ?_ | refine Nat1.mk fun q_ hq_ => ?_ | refine em_ fun x_ hx_ => ?_ | refine Elem1.mk fun e_ he_ => ?_); refine g1_ ?_))
      rename_i bt
      refine' loopI (α := Nat) (fun i => [(20, .int .i64 i)]) [(3, _), (18, _), (19, _)] (fun i => [⟨b_, .mpc (seenEs (keysB (L.take i)))⟩, ⟨bt, .row 5 [.agg [.int .i64 pre.kind, .int .i32 pre.r, .int .i64 pre.n, .int .i64 pre.held, .sl 5 (L.map encBnd)]] 0⟩]) (fun i => i ≤ L.length ∧ checkB (keysB (L.take i)) (L.drop i) = R ∧ (keysB (L.take i)).Nodup) (fun i => L.length - i) 0 ?_ ?_
      · exact ⟨Nat.zero_le _, hR, List.nodup_nil⟩
      rintro i ⟨hi, hr, hu⟩
      have hks := keysB_ok hL i
      by_cases h3 : i = L.length
      · subst h3
        rw [List.drop_length] at hr
        have : R = 0 := hr.symm
        subst this
        (refine g0_ ?_; repeat ((first | refine n1_ fun b_ => ?_ | refine n2_ fun b_ => ?_ | refine Nat1.mk fun q_ hq_ => ?_ | refine em_ fun x_ hx_ => ?_ | refine Elem1.mk fun e_ he_ => ?_); refine g0_ ?_))
        (refine g1_ ?_; repeat ((first | refine n1_ fun b_ => ?_ | refine n2_ fun b_ => ?_ | refine Nat1.mk fun q_ hq_ => ?_ | refine em_ fun x_ hx_ => ?_ | refine Elem1.mk fun e_ he_ => ?_); refine g1_ ?_))
        exact .refl _
      · obtain ⟨b, hb⟩ : ∃ b, L[i]? = some b := ⟨L[i]'(by omega), List.getElem?_eq_getElem _⟩
        have hbm := hL b (List.mem_of_getElem? hb)
        have hcb : Pure Tryz.prog W 19 [.agg [.int .i64 b.k.kind, .int .i32 b.k.r, .int .i64 b.k.n, .int .i64 b.k.held]] (.bool (decide (isKey b.k))) := kcheck_ok W b.k
        have hw := bwords_ok W b.cmd hbm.2
        have hls : ∀ {m : Nat} {σ r_ : Mem}, Look σ m (.mpc (seenEs (keysB (L.take i)))) r_ → LookLaw Tryz.prog 50 (.mp m) (.agg [.int .i64 b.k.kind, .int .i32 b.k.r, .int .i64 b.k.n, .int .i64 b.k.held]) false σ (.bool (decide (b.k ∈ keysB (L.take i)))) := fun hl => look_seen hl hks hu b.k hbm.1
        rw [drop_cons_of hb, checkB] at hr
        by_cases h4 : isKey b.k
        · rw [decide_eq_true h4] at hcb
          rw [if_neg (by simpa using h4)] at hr
          by_cases h5 : b.k ∈ keysB (L.take i)
          · rw [if_pos h5] at hr
            subst hr
            rw [decide_eq_true h5] at hls
            (refine g0_ ?_; repeat ((first | refine n1_ fun b_ => ?_ | refine n2_ fun b_ => ?_ | refine Nat1.mk fun q_ hq_ => ?_ | refine em_ fun x_ hx_ => ?_ | refine Elem1.mk fun e_ he_ => ?_); refine g0_ ?_))
            (refine g1_ ?_; repeat ((first | refine n1_ fun b_ => ?_ | refine n2_ fun b_ => ?_ | refine Nat1.mk fun q_ hq_ => ?_ | refine em_ fun x_ hx_ => ?_ | refine Elem1.mk fun e_ he_ => ?_); refine g1_ ?_))
            refine (hcb).use ?_; (refine g0_ ?_; repeat ((first | refine n1_ fun b_ => ?_ | refine n2_ fun b_ => ?_ | refine Nat1.mk fun q_ hq_ => ?_ | refine em_ fun x_ hx_ => ?_ | refine Elem1.mk fun e_ he_ => ?_); refine g0_ ?_))
            (refine g1_ ?_; repeat ((first | refine n1_ fun b_ => ?_ | refine n2_ fun b_ => ?_ | refine Nat1.mk fun q_ hq_ => ?_ | refine em_ fun x_ hx_ => ?_ | refine Elem1.mk fun e_ he_ => ?_); refine g1_ ?_))
            refine ⟨_, hls (by repeat (first | exact .here _ _ _ | apply Look.there)), ?_⟩
            (refine g1_ ?_; repeat ((first | refine n1_ fun b_ => ?_ | refine n2_ fun b_ => ?_ | refine Nat1.mk fun q_ hq_ => ?_ | refine em_ fun x_ hx_ => ?_ | refine Elem1.mk fun e_ he_ => ?_); refine g1_ ?_))
            exact .refl _
          · rw [if_neg h5] at hr
            rw [decide_eq_false h5] at hls
            have hins : InsLaw Tryz.prog 50 (seenEs (keysB (L.take i))) (.agg [.int .i64 b.k.kind, .int .i32 b.k.r, .int .i64 b.k.n, .int .i64 b.k.held]) (.bool true) (seenEs (keysB (L.take (i + 1)))) := by
              rw [keysB_snoc hb]
              exact ins_seen hks hbm.1 h5
            have hu' : (keysB (L.take (i + 1))).Nodup := by
              rw [keysB_snoc hb]
              exact List.nodup_append.2 ⟨hu, by simp, fun a ha c hc e => h5 (by rw [List.mem_singleton.1 hc] at e; exact e ▸ ha)⟩
            rw [← keysB_snoc hb] at hr
            generalize wordsB b.cmd = wr at *
            obtain ⟨wl, we⟩ := wr
            dsimp only at hw hr
            by_cases h6 : we = 0
            · subst h6
              rw [if_neg (by simp)] at hr
              (refine g0_ ?_; repeat ((first | refine n1_ fun b_ => ?_ | refine n2_ fun b_ => ?_ | refine Nat1.mk fun q_ hq_ => ?_ | refine em_ fun x_ hx_ => ?_ | refine Elem1.mk fun e_ he_ => ?_); refine g0_ ?_))
              (refine g1_ ?_; repeat ((first | refine n1_ fun b_ => ?_ | refine n2_ fun b_ => ?_ | refine Nat1.mk fun q_ hq_ => ?_ | refine em_ fun x_ hx_ => ?_ | refine Elem1.mk fun e_ he_ => ?_); refine g1_ ?_))
              refine (hcb).use ?_; (refine g0_ ?_; repeat ((first | refine n1_ fun b_ => ?_ | refine n2_ fun b_ => ?_ | refine Nat1.mk fun q_ hq_ => ?_ | refine em_ fun x_ hx_ => ?_ | refine Elem1.mk fun e_ he_ => ?_); refine g0_ ?_))
              (refine g1_ ?_; repeat ((first | refine n1_ fun b_ => ?_ | refine n2_ fun b_ => ?_ | refine Nat1.mk fun q_ hq_ => ?_ | refine em_ fun x_ hx_ => ?_ | refine Elem1.mk fun e_ he_ => ?_); refine g1_ ?_))
              refine ⟨_, hls (by repeat (first | exact .here _ _ _ | apply Look.there)), ?_⟩
              (refine g1_ ?_; repeat ((first | refine n1_ fun b_ => ?_ | refine n2_ fun b_ => ?_ | refine Nat1.mk fun q_ hq_ => ?_ | refine em_ fun x_ hx_ => ?_ | refine Elem1.mk fun e_ he_ => ?_); refine g1_ ?_))
              refine .law _ _ _ (by repeat (first | exact .here _ _ _ | apply Look.there)) hins ?_
              (refine g0_ ?_; repeat ((first | refine n1_ fun b_ => ?_ | refine n2_ fun b_ => ?_ | refine Nat1.mk fun q_ hq_ => ?_ | refine em_ fun x_ hx_ => ?_ | refine Elem1.mk fun e_ he_ => ?_); refine g0_ ?_))
              refine (hw).use ?_; (refine g0_ ?_; repeat ((first | refine n1_ fun b_ => ?_ | refine n2_ fun b_ => ?_ | refine Nat1.mk fun q_ hq_ => ?_ | refine em_ fun x_ hx_ => ?_ | refine Elem1.mk fun e_ he_ => ?_); refine g0_ ?_))
              (refine g1_ ?_; repeat ((first | refine n1_ fun b_ => ?_ | refine n2_ fun b_ => ?_ | refine Nat1.mk fun q_ hq_ => ?_ | refine em_ fun x_ hx_ => ?_ | refine Elem1.mk fun e_ he_ => ?_); refine g1_ ?_))
              refine nx_ (i + 1) ?_ ?_
              · exact ⟨by omega, hr, hu'⟩
              · ((try dsimp only); (try simp only [List.length_drop, List.length_take, List.length_append, List.length_cons, List.length_nil, List.length_map] at *); omega)
            · rw [if_pos h6] at hr
              subst hr
              (refine g0_ ?_; repeat ((first | refine n1_ fun b_ => ?_ | refine n2_ fun b_ => ?_ | refine Nat1.mk fun q_ hq_ => ?_ | refine em_ fun x_ hx_ => ?_ | refine Elem1.mk fun e_ he_ => ?_); refine g0_ ?_))
              (refine g1_ ?_; repeat ((first | refine n1_ fun b_ => ?_ | refine n2_ fun b_ => ?_ | refine Nat1.mk fun q_ hq_ => ?_ | refine em_ fun x_ hx_ => ?_ | refine Elem1.mk fun e_ he_ => ?_); refine g1_ ?_))
              refine (hcb).use ?_; (refine g0_ ?_; repeat ((first | refine n1_ fun b_ => ?_ | refine n2_ fun b_ => ?_ | refine Nat1.mk fun q_ hq_ => ?_ | refine em_ fun x_ hx_ => ?_ | refine Elem1.mk fun e_ he_ => ?_); refine g0_ ?_))
              (refine g1_ ?_; repeat ((first | refine n1_ fun b_ => ?_ | refine n2_ fun b_ => ?_ | refine Nat1.mk fun q_ hq_ => ?_ | refine em_ fun x_ hx_ => ?_ | refine Elem1.mk fun e_ he_ => ?_); refine g1_ ?_))
              refine ⟨_, hls (by repeat (first | exact .here _ _ _ | apply Look.there)), ?_⟩
              (refine g1_ ?_; repeat ((first | refine n1_ fun b_ => ?_ | refine n2_ fun b_ => ?_ | refine Nat1.mk fun q_ hq_ => ?_ | refine em_ fun x_ hx_ => ?_ | refine Elem1.mk fun e_ he_ => ?_); refine g1_ ?_))
              refine .law _ _ _ (by repeat (first | exact .here _ _ _ | apply Look.there)) hins ?_
              (refine g0_ ?_; repeat ((first | refine n1_ fun b_ => ?_ | refine n2_ fun b_ => ?_ | refine Nat1.mk fun q_ hq_ => ?_ | refine em_ fun x_ hx_ => ?_ | refine Elem1.mk fun e_ he_ => ?_); refine g0_ ?_))
              refine (hw).use ?_; (refine g0_ ?_; repeat ((first | refine n1_ fun b_ => ?_ | refine n2_ fun b_ => ?_ | refine Nat1.mk fun q_ hq_ => ?_ | refine em_ fun x_ hx_ => ?_ | refine Elem1.mk fun e_ he_ => ?_); refine g0_ ?_))
              (refine g1_ ?_; repeat ((first | refine n1_ fun b_ => ?_ | refine n2_ fun b_ => ?_ | refine Nat1.mk fun q_ hq_ => ?_ | refine em_ fun x_ hx_ => ?_ | refine Elem1.mk fun e_ he_ => ?_); refine g1_ ?_))
              exact .refl _
        · rw [decide_eq_false h4] at hcb
          rw [if_pos h4] at hr
          subst hr
          (refine g0_ ?_; repeat ((first | refine n1_ fun b_ => ?_ | refine n2_ fun b_ => ?_ | refine Nat1.mk fun q_ hq_ => ?_ | refine em_ fun x_ hx_ => ?_ | refine Elem1.mk fun e_ he_ => ?_); refine g0_ ?_))
          (refine g1_ ?_; repeat ((first | refine n1_ fun b_ => ?_ | refine n2_ fun b_ => ?_ | refine Nat1.mk fun q_ hq_ => ?_ | refine em_ fun x_ hx_ => ?_ | refine Elem1.mk fun e_ he_ => ?_); refine g1_ ?_))
          refine (hcb).use ?_; (refine g0_ ?_; repeat ((first | refine n1_ fun b_ => ?_ | refine n2_ fun b_ => ?_ | refine Nat1.mk fun q_ hq_ => ?_ | refine em_ fun x_ hx_ => ?_ | refine Elem1.mk fun e_ he_ => ?_); refine g0_ ?_))
          (refine g1_ ?_; repeat ((first | refine n1_ fun b_ => ?_ | refine n2_ fun b_ => ?_ | refine Nat1.mk fun q_ hq_ => ?_ | refine em_ fun x_ hx_ => ?_ | refine Elem1.mk fun e_ he_ => ?_); refine g1_ ?_))
          exact .refl _
  · rw [decide_eq_false h1] at hc
    have e : checkT ⟨pre, L⟩ = 5 := by unfold checkT; rw [if_pos h1]
    rw [e]
    refine Pure.of (acalls_of_vc (drawOk W) Tryz.func9 rfl (by decide) (by decide) rfl ?_)
    (refine g0_ ?_; repeat ((first | refine n1_ fun b_ => ?_ | refine n2_ fun b_ => ?_ | refine Nat1.mk fun q_ hq_ => ?_ | refine em_ fun x_ hx_ => ?_ | refine Elem1.mk fun e_ he_ => ?_); refine g0_ ?_))
    refine (hc).use ?_; (refine g0_ ?_; repeat ((first | refine n1_ fun b_ => ?_ | refine n2_ fun b_ => ?_ | refine Nat1.mk fun q_ hq_ => ?_ | refine em_ fun x_ hx_ => ?_ | refine Elem1.mk fun e_ he_ => ?_); refine g0_ ?_))
    (refine g1_ ?_; repeat ((first | refine n1_ fun b_ => ?_ | refine n2_ fun b_ => ?_ | refine Nat1.mk fun q_ hq_ => ?_ | refine em_ fun x_ hx_ => ?_ | refine Elem1.mk fun e_ he_ => ?_); refine g1_ ?_))
    exact .refl _
end Go.Eng.YtbaokhehnilneaaGreatDoor
end

/- strings.Builder: texts written, empty ones too. -/
section
namespace Go.Eng
open Go
/-- What was lent comes back behind the rest. -/
theorem ACalls.lendEnd {P : Program} {W : World} {α : Type} {V : α → PV} {M : α → Mem} {R : α → Prop} {f : FuncId} {args : List PV} {σ τ r : Mem} {k : PV → Mem → Prop} (h : ACalls P W f args τ (Gives V M R)) (hp : σ.Perm (r ++ τ)) (hk : ∀ x, R x → k (V x) (r ++ M x)) : ACalls P W f args σ k :=
  ACalls.weak (ACalls.lend h (hp.trans List.perm_append_comm) fun x hx => ⟨r ++ M x, hk x hx, [], by rw [List.append_nil]; exact List.perm_append_comm⟩)
end Go.Eng
namespace Go.Eng.YtbaokhehnilneaaGreatDoor
open Go Go.Eng Go.Proofs
variable (W : World)
set_option linter.unusedSimpArgs false
set_option maxRecDepth 100000
set_option linter.unusedVariables false
set_option maxHeartbeats 4000000
/-- A builder under way; z: something was written, be it empty. -/
def bldT (b c : Nat) (z : Bool) : List UInt8 → Mem
  | [] => if z then bldM1 b else bldM0 b
  | x :: l => bldM b c (x :: l)
theorem bldT_ne (b c : Nat) (z : Bool) {l : List UInt8} (h : l ≠ []) : bldT b c z l = bldM b c l := by cases l; exact absurd rfl h; rfl
theorem writeE0 (b : Nat) : ACalls Tryz.prog W 30 [.tpt 66 2 b, .str []] (bldM0 b) (Gives (fun _ : Unit => .tup [.int .i64 0, .lit .nilIface]) (fun _ => bldM1 b) (fun _ => True)) := by
  refine acalls_of_vc (drawOk W) Tryz.func30 rfl (by decide) (by decide) rfl ?_
  (refine g0_ ?_; repeat ((first | refine n1_ fun b_ => ?_ | refine n2_ fun b_ => ?_); refine g0_ ?_))
  refine ACalls.lend (copyCheck0 W b) (r := []) (by simp) ?_
  rintro _ -
  (refine g0_ ?_; repeat ((first | refine n1_ fun b_ => ?_ | refine n2_ fun b_ => ?_); refine g0_ ?_))
  exact ⟨(), trivial, rfl, wkMem.rfl'⟩
theorem writeE1 (b : Nat) : ACalls Tryz.prog W 30 [.tpt 66 2 b, .str []] (bldM1 b) (Gives (fun _ : Unit => .tup [.int .i64 0, .lit .nilIface]) (fun _ => bldM1 b) (fun _ => True)) := by
  refine acalls_of_vc (drawOk W) Tryz.func30 rfl (by decide) (by decide) rfl ?_
  (refine g0_ ?_; repeat ((first | refine n1_ fun b_ => ?_ | refine n2_ fun b_ => ?_); refine g0_ ?_))
  refine ACalls.lend (copyCheck1 W b) (r := []) (by simp) ?_
  rintro _ -
  (refine g0_ ?_; repeat ((first | refine n1_ fun b_ => ?_ | refine n2_ fun b_ => ?_); refine g0_ ?_))
  exact ⟨(), trivial, rfl, wkMem.rfl'⟩
theorem writeE2 (b c : Nat) (l : List UInt8) (h0 : l ≠ []) (hl : l.length ≤ 70368744177664) : ACalls Tryz.prog W 30 [.tpt 66 2 b, .str []] (bldM b c l) (Gives (fun _ : Nat => .tup [.int .i64 0, .lit .nilIface]) (fun c => bldM b c l) (fun _ => True)) := by
  refine acalls_of_vc (drawOk W) Tryz.func30 rfl (by decide) (by decide) rfl ?_
  (refine g0_ ?_; repeat ((first | refine n1_ fun b_ => ?_ | refine n2_ fun b_ => ?_); refine g0_ ?_))
  refine ACalls.lend (copyCheck2 W b c l.length) (r := [⟨c, .row 1 (l.map byteP) 0⟩]) (.refl _) ?_
  rintro _ -
  (refine g0_ ?_; repeat ((first | refine n1_ fun b_ => ?_ | refine n2_ fun b_ => ?_); refine g0_ ?_))
  exact ⟨_, trivial, rfl, by simp only [List.map_nil, List.append_nil, List.length_nil, Nat.add_zero]; exact wkMem.rfl'⟩
theorem writeString1 (b : Nat) (s : List UInt8) (h0 : s ≠ []) (hs : s.length ≤ 70368744177664) :
    ACalls Tryz.prog W 30 [.tpt 66 2 b, .str s] (bldM1 b) (GivesW b s.length s) := by
  obtain ⟨x, s, rfl⟩ : ∃ x t, s = x :: t := by cases s with | nil => exact absurd rfl h0 | cons x t => exact ⟨_, _, rfl⟩
  simp only [List.length_cons] at hs
  refine acalls_of_vc (drawOk W) Tryz.func30 rfl (by decide) (by decide) rfl ?_
  (refine g0_ ?_; repeat ((first | refine n1_ fun b_ => ?_ | refine n2_ fun b_ => ?_); refine g0_ ?_))
  refine ACalls.lend (copyCheck1 W b) (r := []) (by simp) ?_
  rintro _ -
  (refine g0_ ?_; repeat ((first | refine n1_ fun b_ => ?_ | refine n2_ fun b_ => ?_); refine g0_ ?_))
  refine ⟨b_, trivial, rfl, ?_⟩
  simp only [List.length_map]
  (first | exact ⟨_, .refl _⟩ | exact wkMem.rfl' | exact ⟨_, .swap _ _ _⟩ | (repeat (first | exact wkMem.nil _ | exact wkMem.rfl' | exact wk_snoc _ _ _ | exact wk_fam (by assumption) _ _ _ | exact wk_famN (by assumption) _ _ _ | (apply wkMem.cons; (case' hl => (repeat (first | exact .here _ _ _ | apply Look.there)))) | apply wkMem.skip)))
theorem writeT_ok (b c : Nat) (z : Bool) (l s : List UInt8) (hs : s.length ≤ 70368744177664) (hl : l.length ≤ 70368744177664) :
    ACalls Tryz.prog W 30 [.tpt 66 2 b, .str s] (bldT b c z l) (Gives (fun _ : Nat => .tup [.int .i64 s.length, .lit .nilIface]) (fun c => bldT b c true (l ++ s)) (fun _ => True)) := by
  by_cases h0 : s = []
  · subst h0
    rw [List.append_nil]
    by_cases h : l = []
    · subst h
      cases z
      · exact (writeE0 W b).mono fun v σ ⟨_, _, h1, h2⟩ => ⟨0, trivial, h1, h2⟩
      · exact (writeE1 W b).mono fun v σ ⟨_, _, h1, h2⟩ => ⟨0, trivial, h1, h2⟩
    · have e : (fun c => bldT b c true l) = fun c => bldM b c l := by funext c; exact bldT_ne b c true h
      rw [e, bldT_ne b c z h]
      exact writeE2 W b c l h hl
  · have e : (fun c => bldT b c true (l ++ s)) = fun c => bldM b c (l ++ s) := by funext c; exact bldT_ne b c true (by simp [h0])
    rw [e]
    by_cases h : l = []
    · subst h
      cases z
      · exact writeString0 W b s h0 hs
      · exact writeString1 W b s h0 hs
    · rw [bldT_ne b c z h]
      exact writeString2 W b c l h s hs hl
theorem string1 (b : Nat) : ACalls Tryz.prog W 31 [.tpt 66 2 b] (bldM1 b) (Gives (fun _ : Unit => .str []) (fun _ => []) (fun _ => True)) := by
  refine acalls_of_vc (drawOk W) Tryz.func31 rfl (by decide) (by decide) rfl ?_
  (refine g0_ ?_; repeat ((first | refine n1_ fun b_ => ?_ | refine n2_ fun b_ => ?_); refine g0_ ?_))
  refine Draws.head ⟨10, by decide +kernel, ?_⟩; (refine g0_ ?_; repeat ((first | refine n1_ fun b_ => ?_ | refine n2_ fun b_ => ?_); refine g0_ ?_))
  exact ⟨(), trivial, rfl, wkMem.nil _⟩
theorem stringT_ok (b c : Nat) (z : Bool) (l : List UInt8) (hl : l.length ≤ 140737488355328) : ACalls Tryz.prog W 31 [.tpt 66 2 b] (bldT b c z l) (Gives (fun _ : Unit => .str l) (fun _ => []) (fun _ => True)) := by
  by_cases h : l = []
  · subst h
    cases z
    · exact string0 W b
    · exact string1 W b
  · rw [bldT_ne b c z h]
    exact string2 W b c l h hl
end Go.Eng.YtbaokhehnilneaaGreatDoor
end
