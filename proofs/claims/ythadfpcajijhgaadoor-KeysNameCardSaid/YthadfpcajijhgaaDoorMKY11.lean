/- Texts put together: KeyG, Key17. -/
import Derived.Test.YthadfpcajijhgaaDoorMKY6
import Derived.Test.YthadfpcajijhgaaDoorMKY8
import Derived.Test.YthadfpcajijhgaaDoorMRA
import Derived.Test.YthadfpcajijhgaaDoorME6
/- Keys: whose name it is (plain). -/
section
namespace Go.Eng.YthadfpcajijhgaaDoor
open Go Go.Eng Go.Proofs
set_option linter.unusedSimpArgs false
set_option maxRecDepth 100000
set_option linter.unusedVariables false
set_option maxHeartbeats 4000000
theorem pre_drop2 {s : List UInt8} {a b : UInt8} (h : Lib.hasPrefix s [a, b] = true) : s = [a, b] ++ s.drop 2 := by
  unfold Lib.hasPrefix at h
  match s, h with
  | [], h => cases h
  | [c], h => simp [List.isPrefixOf] at h
  | c :: d :: l, h =>
    simp only [List.isPrefixOf, Bool.and_eq_true, beq_iff_eq] at h
    obtain ⟨h1, h2, -⟩ := h
    subst h1 h2
    rfl
theorem step_back (a b : UInt8) (bit : Int) (s : List UInt8) (x : Int) : stepN [a, b] bit (s, x) = (s, x) ∨ (stepN [a, b] bit (s, x) = (s.drop 2, x + bit) ∧ s = [a, b] ++ s.drop 2) := by
  unfold stepN
  dsimp only
  split
  · rename_i h
    exact .inr ⟨rfl, pre_drop2 h.1⟩
  · exact .inl rfl
/-- The rest behind what is held, and what is held. -/
theorem rest_back (s : List UInt8) : ∃ t h, restN 0 (s, 0) = (t, h) ∧ s = modK h ++ t ∧ 0 ≤ h ∧ h ≤ 7 ∧ t.length ≤ s.length := by
  show ∃ t h, stepN [83, 45] 1 (stepN [77, 45] 2 (stepN [67, 45] 4 (s, 0))) = (t, h) ∧ _
  have fin : ∀ (t : List UInt8) (h : Int) (p : List UInt8), (s = p ++ t) → (0 ≤ h ∧ h ≤ 6 ∧ h % 2 = 0) → p = modK h → t.length ≤ s.length →
      ∃ t' h', stepN [83, 45] 1 (t, h) = (t', h') ∧ s = modK h' ++ t' ∧ 0 ≤ h' ∧ h' ≤ 7 ∧ t'.length ≤ s.length := by
    intro t h p hs hh hp hl
    rcases step_back 83 45 1 t h with e | ⟨e, ht⟩
    · exact ⟨t, h, e, hp ▸ hs, hh.1, by omega, hl⟩
    · refine ⟨_, _, e, ?_, by omega, by omega, by rw [List.length_drop]; omega⟩
      rw [show modK (h + 1) = modK h ++ [83, 45] by
        rcases (by omega : h = 0 ∨ h = 2 ∨ h = 4 ∨ h = 6) with rfl | rfl | rfl | rfl <;> rfl, List.append_assoc, ← ht, ← hp]
      exact hs
  have mid : ∀ (t : List UInt8) (h : Int) (p : List UInt8), (s = p ++ t) → (h = 0 ∨ h = 4) → p = modK h → t.length ≤ s.length →
      ∃ t' h', stepN [83, 45] 1 (stepN [77, 45] 2 (t, h)) = (t', h') ∧ s = modK h' ++ t' ∧ 0 ≤ h' ∧ h' ≤ 7 ∧ t'.length ≤ s.length := by
    intro t h p hs hh hp hl
    rcases step_back 77 45 2 t h with e | ⟨e, ht⟩
    · rw [e]
      exact fin t h p hs (by omega) hp hl
    · rw [e]
      refine fin _ _ (p ++ [77, 45]) ?_ (by omega) ?_ (by rw [List.length_drop]; omega)
      · rw [List.append_assoc, ← ht]; exact hs
      · rw [hp]; rcases hh with rfl | rfl <;> rfl
  rcases step_back 67 45 4 s 0 with e | ⟨e, ht⟩
  · rw [e]
    exact mid s 0 [] rfl (.inl rfl) rfl (Nat.le_refl _)
  · rw [e]
    exact mid _ _ [67, 45] ht (.inr rfl) rfl (by rw [List.length_drop]; omega)
theorem word_back (t : List UInt8) : ∀ j : Nat, j ≤ 15 → wordP j t ≠ 0 → ∃ m : Nat, wordP j t = m ∧ 2 ≤ m ∧ m < 15 ∧ wordsK.getD m [] = t
  | 0, _, h => absurd rfl h
  | j + 1, hj, h => by
    rw [wordP] at h ⊢
    split at h
    · rename_i hc
      rw [if_pos hc]
      refine ⟨j, rfl, ?_, by omega, hc.2⟩
      match j, hc with
      | 0, hc => exact absurd rfl hc.1
      | 1, hc => exact absurd rfl hc.1
      | j + 2, _ => omega
    · rename_i hc
      rw [if_neg hc]
      exact word_back t j (by omega) h
theorem finK_back {k x : Key} (h : finK k = (x, 0)) : x = k ∧ isKey k := by
  unfold finK at h
  split at h
  · rename_i hk
    exact ⟨(congrArg Prod.fst h).symm, hk⟩
  · exact absurd (show (1 : Int) = 0 from congrArg Prod.snd h) (by decide)
theorem fin_snd (k : Key) : (finK k).2 = 0 ∨ finK k = (keyZ, 1) := by
  unfold finK
  split
  · exact .inl rfl
  · exact .inr rfl
/-- Named, it is well, or not at all. -/
theorem named_snd (s : List UInt8) : (namedK s).2 = 0 ∨ namedK s = (keyZ, 1) := by
  unfold namedK nm namedT
  repeat' split
  all_goals first
    | exact fin_snd _
    | exact .inr rfl
theorem named_back (s : List UInt8) (x : Key) (h : namedK s = (x, 0)) : isKey x ∧ nameK x = s := by
  obtain ⟨t, b, e, hs, h0, h7, -⟩ := rest_back s
  unfold namedK nm at h
  rw [e] at h
  dsimp only at h
  unfold namedT at h
  subst hs
  split at h
  · rename_i hw
    obtain ⟨rfl, hk⟩ := finK_back h
    obtain ⟨m, em, h2, h15, hm⟩ := word_back t 15 (Nat.le_refl _) hw
    refine ⟨hk, ?_⟩
    unfold nameK
    dsimp only
    rw [em, if_neg (by omega), if_neg (by omega), Int.toNat_natCast, hm]
  · split at h
    · rename_i hf
      obtain ⟨rfl, hk⟩ := finK_back h
      refine ⟨hk, ?_⟩
      unfold nameK
      dsimp only
      rw [if_neg (by decide), if_pos rfl, hf.2.2]
      congr 1
      have h1 := hf.1.1
      unfold Lib.hasPrefix at h1
      match t, h1 with
      | [], h1 => cases h1
      | c :: l, h1 =>
        simp only [List.isPrefixOf, Bool.and_eq_true, beq_iff_eq] at h1
        rw [← h1.1]
        rfl
    · split at h
      · rename_i hsp
        obtain ⟨rfl, hk⟩ := finK_back h
        refine ⟨hk, ?_⟩
        unfold nameK
        dsimp only
        rw [if_pos rfl, if_pos rfl, hsp]
      · split at h
        · exact absurd (show (1 : Int) = 0 from congrArg Prod.snd h) (by decide)
        · rename_i hn
          obtain ⟨rfl, hk⟩ := finK_back h
          refine ⟨hk, ?_⟩
          have h1 : ¬ ((nextL t).1 : Int) = 32 := fun e => hn (.inl e)
          have h2 : Lib.encodeRune (nextL t).1 = t := Decidable.of_not_not fun e => hn (.inr e)
          unfold nameK
          dsimp only
          rw [if_pos rfl, if_neg h1, h2]
/-- No key has the name of none. -/
theorem named_none {s : List UInt8} (h : (namedK s).2 ≠ 0) (k : Key) (hk : isKey k) : nameK k ≠ s := fun e => by
  have := (back_all k hk).2.2
  rw [e] at this
  exact h (congrArg Prod.snd this)
end Go.Eng.YthadfpcajijhgaaDoor
end

/- Keys: the reference's KeyName; the law KeysName (b_ x_ q_ e_). -/
section
namespace Go.Eng.YthadfpcajijhgaaDoor
open Go Go.Eng Go.Proofs Go.Maps
variable (W : World)
set_option linter.unusedSimpArgs false
set_option maxRecDepth 100000
set_option linter.unusedVariables false
set_option maxHeartbeats 8000000
abbrev SpaceT (W : World) : Prop := Lib.TabIs Tryd.prog W "strings.asciiSpace" .u8 Lib.asciiSpaceTab
theorem space_at {W w : World} (h : SpaceT W) (hs : ∀ b, b < W.heap.size → w.heap[b]? = W.heap[b]?) : SpaceT w := by
  unfold SpaceT Lib.TabIs at *
  unfold World.var? at *
  cases hg : Tryd.prog.globalNamed "strings.asciiSpace" with
  | none => rw [hg] at h; simp at h
  | some g =>
    rw [hg] at h
    simp only [Option.bind_some] at h ⊢
    have hlt : g < W.heap.size := by
      cases hb : W.heap[g]? with
      | none => simp [hb] at h
      | some o => exact (Array.getElem?_eq_some_iff.1 hb).1
    rw [hs g hlt]; exact h
def wordsT : List UInt8 := [69, 110, 116, 101, 114, 32, 84, 97, 98, 32, 66, 83, 112, 97, 99, 101, 32, 69, 115, 99, 97, 112, 101, 32, 85, 112, 32, 68, 111, 119, 110, 32, 82, 105, 103, 104, 116, 32, 76, 101, 102, 116, 32, 72, 111, 109, 101, 32, 69, 110, 100, 32, 80, 97, 103, 101, 85, 112, 32, 80, 97, 103, 101, 68, 111, 119, 110, 32, 68, 101, 108, 101, 116, 101]
theorem fields_words : Lib.fields wordsT = wordsK.drop 2 := by decide +kernel
theorem fields_ok (hS : SpaceT W) : Pure Tryd.prog W 31 [.str wordsT] (.sl 1 ((wordsK.drop 2).map .str)) :=
  Pure.of_strs (t := 9) (wordsK.drop 2) Tryd.func31 rfl (by decide) rfl fun w _ hw => by
    have hb : ∀ (j : Nat) b, wordsT[j]? = some b → b.toNat < 128 := fun j b h => by
      have key : (wordsT.all fun b => decide (b.toNat < 128)) = true := by decide +kernel
      exact of_decide_eq_true (List.all_eq_true.1 key b (List.mem_of_getElem? h))
    have h := Tryd.strings_Fields ⟨wordsT.toArray⟩ w (by decide) hb (space_at hS hw)
    rw [show Lib.fields (⟨wordsT.toArray⟩ : ByteArray).data.toList = wordsK.drop 2 from fields_words] at h
    exact h
/-- What is ahead, bit by bit. -/
def preC (held : Int) : Nat → List UInt8
  | 0 => []
  | 1 => if 4 ≤ held then [67, 45] else []
  | 2 => (if 4 ≤ held then [67, 45] else []) ++ (if held = 2 ∨ held = 3 ∨ held = 6 ∨ held = 7 then [77, 45] else [])
  | _ => modK held
theorem preC_len (held : Int) (j : Nat) : (preC held j).length ≤ 6 := by
  unfold preC
  split
  · exact Nat.zero_le _
  · split <;> simp
  · split <;> split <;> simp
  · exact pre_len held
theorem keyName_ok (hN : Nums W) (hS : SpaceT W) (k : Key) (hk : isKey k) : Pure Tryd.prog W 16 [encKey k] (.str (nameK k)) := by
  obtain ⟨kind, r, n, held⟩ := k
  have hf := hk.1
  have hk2 := hk.2
  clear hk
  unfold formK at hf
  unfold kindK at hk2
  dsimp only at *
  obtain ⟨hh, hr, hn⟩ := hf
  have hkn : (kind = 15 → 0 ≤ n ∧ n ≤ 12) ∧ 1 ≤ kind ∧ kind ≤ 15 := by
    generalize ctrlR r = A at *
    generalize runeR r held = B at *
    repeat' split at hk2
    all_goals omega
  clear hk2 hn hr
  obtain ⟨hn12, hkb⟩ := hkn
  have hfl := fields_ok W hS
  unfold wordsT at hfl
  simp only [wordsK, List.drop_succ_cons, List.drop_zero, List.map_cons, List.map_nil] at hfl
  unfold encKey
  dsimp only
  refine Pure.of (acalls_of_vc (drawOk W) Tryd.func16 rfl (by decide) (by decide) rfl ?_)
  (refine gj_ ?_; repeat ((first | refine n1_ fun b_ => ?_ | refine n2_ fun b_ => ?_ | refine Nat1.mk fun q_ hq_ => ?_ | refine em_ fun x_ hx_ => ?_ | refine Elem1.mk fun e_ he_ => ?_); refine gj_ ?_))
  first | refine' joinT (α := Unit) (fun u => [(1, .bref b_ 0), (3, .str (preC held 1))]) [] (fun u => [⟨b_, .row 4 [.agg [.int .i64 kind, .int .i32 r, .int .i64 n, .int .i64 held]] 0⟩]) (fun u => True) ?_ ?_ | refine' joinF (α := Unit) (fun u => [(1, .bref b_ 0), (3, .str (preC held 1))]) [] (fun u => [⟨b_, .row 4 [.agg [.int .i64 kind, .int .i32 r, .int .i64 n, .int .i64 held]] 0⟩]) (fun u => True) ?_ ?_
  · clear hn12 hkb hfl
    have hp1 := preC_len held 1
    have hp2 := preC_len held 2
    rcases (by omega : held = 0 ∨ held = 1 ∨ held = 2 ∨ held = 3 ∨ held = 4 ∨ held = 5 ∨ held = 6 ∨ held = 7) with rfl | rfl | rfl | rfl | rfl | rfl | rfl | rfl
    all_goals
      (refine g1_ ?_; repeat ((first | refine n1_ fun b_ => ?_ | refine n2_ fun b_ => ?_ | refine Nat1.mk fun q_ hq_ => ?_ | refine em_ fun x_ hx_ => ?_ | refine Elem1.mk fun e_ he_ => ?_); refine g1_ ?_))
      refine jx_ () ?_
      trivial
  rintro - -
  (refine gj_ ?_; repeat ((first | refine n1_ fun b_ => ?_ | refine n2_ fun b_ => ?_ | refine Nat1.mk fun q_ hq_ => ?_ | refine em_ fun x_ hx_ => ?_ | refine Elem1.mk fun e_ he_ => ?_); refine gj_ ?_))
  first | refine' joinT (α := Unit) (fun u => [(1, .bref b_ 0), (3, .str (preC held 2))]) [] (fun u => [⟨b_, .row 4 [.agg [.int .i64 kind, .int .i32 r, .int .i64 n, .int .i64 held]] 0⟩]) (fun u => True) ?_ ?_ | refine' joinF (α := Unit) (fun u => [(1, .bref b_ 0), (3, .str (preC held 2))]) [] (fun u => [⟨b_, .row 4 [.agg [.int .i64 kind, .int .i32 r, .int .i64 n, .int .i64 held]] 0⟩]) (fun u => True) ?_ ?_
  · clear hn12 hkb hfl
    have hp1 := preC_len held 1
    have hp2 := preC_len held 2
    rcases (by omega : held = 0 ∨ held = 1 ∨ held = 2 ∨ held = 3 ∨ held = 4 ∨ held = 5 ∨ held = 6 ∨ held = 7) with rfl | rfl | rfl | rfl | rfl | rfl | rfl | rfl
    all_goals
      (refine g1_ ?_; repeat ((first | refine n1_ fun b_ => ?_ | refine n2_ fun b_ => ?_ | refine Nat1.mk fun q_ hq_ => ?_ | refine em_ fun x_ hx_ => ?_ | refine Elem1.mk fun e_ he_ => ?_); refine g1_ ?_))
      refine jx_ () ?_
      trivial
  rintro - -
  (refine gj_ ?_; repeat ((first | refine n1_ fun b_ => ?_ | refine n2_ fun b_ => ?_ | refine Nat1.mk fun q_ hq_ => ?_ | refine em_ fun x_ hx_ => ?_ | refine Elem1.mk fun e_ he_ => ?_); refine gj_ ?_))
  first | refine' joinT (α := Unit) (fun u => [(1, .bref b_ 0), (3, .str (preC held 3))]) [] (fun u => [⟨b_, .row 4 [.agg [.int .i64 kind, .int .i32 r, .int .i64 n, .int .i64 held]] 0⟩]) (fun u => True) ?_ ?_ | refine' joinF (α := Unit) (fun u => [(1, .bref b_ 0), (3, .str (preC held 3))]) [] (fun u => [⟨b_, .row 4 [.agg [.int .i64 kind, .int .i32 r, .int .i64 n, .int .i64 held]] 0⟩]) (fun u => True) ?_ ?_
  · clear hn12 hkb hfl
    have hp1 := preC_len held 1
    have hp2 := preC_len held 2
    rcases (by omega : held = 0 ∨ held = 1 ∨ held = 2 ∨ held = 3 ∨ held = 4 ∨ held = 5 ∨ held = 6 ∨ held = 7) with rfl | rfl | rfl | rfl | rfl | rfl | rfl | rfl
    all_goals
      (refine g1_ ?_; repeat ((first | refine n1_ fun b_ => ?_ | refine n2_ fun b_ => ?_ | refine Nat1.mk fun q_ hq_ => ?_ | refine em_ fun x_ hx_ => ?_ | refine Elem1.mk fun e_ he_ => ?_); refine g1_ ?_))
      refine jx_ () ?_
      trivial
  rintro - -
  have hpl : (preC held 3).length ≤ 6 := pre_len held
  unfold nameK
  dsimp only
  rw [show modK held = preC held 3 from rfl]
  generalize preC held 3 = P at *
  by_cases k1 : kind = 1
  · subst k1
    rw [if_pos rfl]
    by_cases k32 : r = 32
    · subst k32
      rw [if_pos rfl]
      (refine g0_ ?_; repeat ((first | refine n1_ fun b_ => ?_ | refine n2_ fun b_ => ?_ | refine Nat1.mk fun q_ hq_ => ?_ | refine em_ fun x_ hx_ => ?_ | refine Elem1.mk fun e_ he_ => ?_); refine g0_ ?_))
      (refine g1_ ?_; repeat ((first | refine n1_ fun b_ => ?_ | refine n2_ fun b_ => ?_ | refine Nat1.mk fun q_ hq_ => ?_ | refine em_ fun x_ hx_ => ?_ | refine Elem1.mk fun e_ he_ => ?_); refine g1_ ?_))
      exact .refl _
    · rw [if_neg k32]
      have hel := enc_le r
      (refine g0_ ?_; repeat ((first | refine n1_ fun b_ => ?_ | refine n2_ fun b_ => ?_ | refine Nat1.mk fun q_ hq_ => ?_ | refine em_ fun x_ hx_ => ?_ | refine Elem1.mk fun e_ he_ => ?_); refine g0_ ?_))
      (refine g1_ ?_; repeat ((first | refine n1_ fun b_ => ?_ | refine n2_ fun b_ => ?_ | refine Nat1.mk fun q_ hq_ => ?_ | refine em_ fun x_ hx_ => ?_ | refine Elem1.mk fun e_ he_ => ?_); refine g1_ ?_))
      rw [enc_utf8]
      refine need.mk (by omega) ?_
      (refine g0_ ?_; repeat ((first | refine n1_ fun b_ => ?_ | refine n2_ fun b_ => ?_ | refine Nat1.mk fun q_ hq_ => ?_ | refine em_ fun x_ hx_ => ?_ | refine Elem1.mk fun e_ he_ => ?_); refine g0_ ?_))
      exact .refl _
  · rw [if_neg k1]
    by_cases k15 : kind = 15
    · subst k15
      rw [if_pos rfl]
      have hi := itoa_ok W hN n (by unfold i64ok; omega)
      have hil := itoa_len3 n (by omega)
      generalize Lib.itoa n = I at *
      rw [← List.append_assoc]
      (refine g0_ ?_; repeat ((first | refine n1_ fun b_ => ?_ | refine n2_ fun b_ => ?_ | refine Nat1.mk fun q_ hq_ => ?_ | refine em_ fun x_ hx_ => ?_ | refine Elem1.mk fun e_ he_ => ?_); refine g0_ ?_))
      (refine g1_ ?_; repeat ((first | refine n1_ fun b_ => ?_ | refine n2_ fun b_ => ?_ | refine Nat1.mk fun q_ hq_ => ?_ | refine em_ fun x_ hx_ => ?_ | refine Elem1.mk fun e_ he_ => ?_); refine g1_ ?_))
      refine (hi).use ?_; (refine g0_ ?_; repeat ((first | refine n1_ fun b_ => ?_ | refine n2_ fun b_ => ?_ | refine Nat1.mk fun q_ hq_ => ?_ | refine em_ fun x_ hx_ => ?_ | refine Elem1.mk fun e_ he_ => ?_); refine g0_ ?_))
      (refine g1_ ?_; repeat ((first | refine n1_ fun b_ => ?_ | refine n2_ fun b_ => ?_ | refine Nat1.mk fun q_ hq_ => ?_ | refine em_ fun x_ hx_ => ?_ | refine Elem1.mk fun e_ he_ => ?_); refine g1_ ?_))
      exact .refl _
    · rw [if_neg k15]
      clear hn12
      rcases (by omega : kind = 2 ∨ kind = 3 ∨ kind = 4 ∨ kind = 5 ∨ kind = 6 ∨ kind = 7 ∨ kind = 8 ∨ kind = 9 ∨ kind = 10 ∨ kind = 11 ∨ kind = 12 ∨ kind = 13 ∨ kind = 14) with rfl | rfl | rfl | rfl | rfl | rfl | rfl | rfl | rfl | rfl | rfl | rfl | rfl
      all_goals
        (refine g0_ ?_; repeat ((first | refine n1_ fun b_ => ?_ | refine n2_ fun b_ => ?_ | refine Nat1.mk fun q_ hq_ => ?_ | refine em_ fun x_ hx_ => ?_ | refine Elem1.mk fun e_ he_ => ?_); refine g0_ ?_))
        (refine g1_ ?_; repeat ((first | refine n1_ fun b_ => ?_ | refine n2_ fun b_ => ?_ | refine Nat1.mk fun q_ hq_ => ?_ | refine em_ fun x_ hx_ => ?_ | refine Elem1.mk fun e_ he_ => ?_); refine g1_ ?_))
        refine head_ ?_; (refine g0_ ?_; repeat ((first | refine n1_ fun b_ => ?_ | refine n2_ fun b_ => ?_ | refine Nat1.mk fun q_ hq_ => ?_ | refine em_ fun x_ hx_ => ?_ | refine Elem1.mk fun e_ he_ => ?_); refine g0_ ?_))
        refine ⟨_, (hfl).quiet, ?_⟩; (refine g0_ ?_; repeat ((first | refine n1_ fun b_ => ?_ | refine n2_ fun b_ => ?_ | refine Nat1.mk fun q_ hq_ => ?_ | refine em_ fun x_ hx_ => ?_ | refine Elem1.mk fun e_ he_ => ?_); refine g0_ ?_))
        (refine g1_ ?_; repeat ((first | refine n1_ fun b_ => ?_ | refine n2_ fun b_ => ?_ | refine Nat1.mk fun q_ hq_ => ?_ | refine em_ fun x_ hx_ => ?_ | refine Elem1.mk fun e_ he_ => ?_); refine g1_ ?_))
        exact .refl _
theorem key_fits {k : Key} (hk : isKey k) : k.ok := by
  obtain ⟨kind, r, n, held⟩ := k
  have hf := hk.1
  have hk2 := hk.2
  unfold formK at hf
  unfold kindK at hk2
  dsimp only at *
  obtain ⟨hh, hr, hn⟩ := hf
  have hr2 : -2147483648 ≤ r ∧ r ≤ 2147483647 := by
    by_cases k1 : kind = 1
    · rw [if_pos k1] at hk2
      by_cases h4 : 4 ≤ held
      · rw [if_pos h4] at hk2
        have := hk2.2
        unfold ctrlR at this
        omega
      · rw [if_neg h4] at hk2
        have := valid_of_width hk2.2.1
        unfold validR at this
        omega
    · omega
  have hn2 : 0 ≤ n ∧ n ≤ 12 := by
    by_cases k15 : kind = 15
    · subst k15
      rw [if_neg (by decide), if_neg (by decide), if_neg (by decide), if_neg (by decide), if_pos rfl] at hk2
      omega
    · omega
  have hk3 : 1 ≤ kind ∧ kind ≤ 15 := by
    generalize ctrlR r = A at *
    generalize runeR r held = B at *
    repeat' split at hk2
    all_goals omega
  unfold Key.ok i64ok i32ok
  dsimp only
  omega
end Go.Eng.YthadfpcajijhgaaDoor
end
