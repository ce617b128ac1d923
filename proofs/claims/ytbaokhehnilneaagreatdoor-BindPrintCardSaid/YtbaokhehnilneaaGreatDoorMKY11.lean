/- Texts put together: Key17. -/
import Derived.Test.YtbaokhehnilneaaGreatDoorMKY8
import Derived.Test.YtbaokhehnilneaaGreatDoorMKYH
import Derived.Test.YtbaokhehnilneaaGreatDoorMRA
import Derived.Test.YtbaokhehnilneaaGreatDoorME6
/- Keys: the reference's KeyName; the law KeysName (b_ x_ q_ e_). -/
section
namespace Go.Eng.YtbaokhehnilneaaGreatDoor
open Go Go.Eng Go.Proofs Go.Maps
variable (W : World)
set_option linter.unusedSimpArgs false
set_option maxRecDepth 100000
set_option linter.unusedVariables false
set_option maxHeartbeats 8000000
abbrev SpaceT (W : World) : Prop := Lib.TabIs Tryz.prog W "strings.asciiSpace" .u8 Lib.asciiSpaceTab
theorem space_at {W w : World} (h : SpaceT W) (hs : ∀ b, b < W.heap.size → w.heap[b]? = W.heap[b]?) : SpaceT w := by
  unfold SpaceT Lib.TabIs at *
  unfold World.var? at *
  cases hg : Tryz.prog.globalNamed "strings.asciiSpace" with
  | none => rw [hg] at h; simp at h
  | some g =>
    rw [hg] at h
    simp only [Option.bind_some] at h ⊢
    have hlt : g < W.heap.size := by
      cases hb : W.heap[g]? with
      | none => simp [hb] at h
      | some o => exact (Array.getElem?_eq_some_iff.1 hb).1
    rw [hs g hlt]; exact h
def wordsT : List UInt8 := [69, 110, 116, 101, 114, 32, 84, 97, 98, 32, 66, 83, 112, 97, 99, 101, 32, 69, 115, 99, 97, 112, 101, 32, 85, 112, 32, 68, 111, 119, 110, 32, 82, 105, 103, 104, 116, 32, 76, 101, 102, 116, 32, 72, 111, 109, 101, 32, 69, 110, 100, 32, 80, 97, 103, 101, 85, 112, 32, 80, 97, 103, 101, 68, 111, 119, 110, 32, 68, 101, 108, 101, 116, 101]
theorem fields_words : Lib.fields wordsT = wordsK.drop 2 := by decide +kernel
theorem fields_ok (hS : SpaceT W) : Pure Tryz.prog W 17 [.str wordsT] (.sl 1 ((wordsK.drop 2).map .str)) :=
  Pure.of_strs (t := 9) (wordsK.drop 2) Tryz.func17 rfl (by decide) rfl fun w _ hw => by
    have hb : ∀ (j : Nat) b, wordsT[j]? = some b → b.toNat < 128 := fun j b h => by
      have key : (wordsT.all fun b => decide (b.toNat < 128)) = true := by decide +kernel
      exact of_decide_eq_true (List.all_eq_true.1 key b (List.mem_of_getElem? h))
    have h := Tryz.strings_Fields ⟨wordsT.toArray⟩ w (by decide) hb (space_at hS hw)
    rw [show Lib.fields (⟨wordsT.toArray⟩ : ByteArray).data.toList = wordsK.drop 2 from fields_words] at h
    exact h
/-- What is ahead, bit by bit. -/
def preC (held : Int) : Nat → List UInt8
  | 0 => []
  | 1 => if 4 ≤ held then [67, 45] else []
  | 2 => (if 4 ≤ held then [67, 45] else []) ++ (if held = 2 ∨ held = 3 ∨ held = 6 ∨ held = 7 then [77, 45] else [])
  | _ => modK held
theorem preC_len (held : Int) (j : Nat) : (preC held j).length ≤ 6 := by
  unfold preC
  split
  · exact Nat.zero_le _
  · split <;> simp
  · split <;> split <;> simp
  · exact pre_len held
theorem keyName_ok (hN : Nums W) (hS : SpaceT W) (k : Key) (hk : isKey k) : Pure Tryz.prog W 7 [encKey k] (.str (nameK k)) := by
  obtain ⟨kind, r, n, held⟩ := k
  have hf := hk.1
  have hk2 := hk.2
  clear hk
  unfold formK at hf
  unfold kindK at hk2
  dsimp only at *
  obtain ⟨hh, hr, hn⟩ := hf
  have hkn : (kind = 15 → 0 ≤ n ∧ n ≤ 12) ∧ 1 ≤ kind ∧ kind ≤ 15 := by
    generalize ctrlR r = A at *
    generalize runeR r held = B at *
    repeat' split at hk2
    all_goals omega
  clear hk2 hn hr
  obtain ⟨hn12, hkb⟩ := hkn
  have hfl := fields_ok W hS
  unfold wordsT at hfl
  simp only [wordsK, List.drop_succ_cons, List.drop_zero, List.map_cons, List.map_nil] at hfl
  unfold encKey
  dsimp only
  refine Pure.of (acalls_of_vc (drawOk W) Tryz.func7 rfl (by decide) (by decide) rfl ?_)
  (refine gj_ ?_; repeat ((first | refine n1_ fun b_ => ?_ | refine n2_ fun b_ => ?_ | refine Nat1.mk fun q_ hq_ => ?_ | refine em_ fun x_ hx_ => ?_ | refine Elem1.mk fun e_ he_ => ?_); refine gj_ ?_))
  first | refine' joinT (α := Unit) (fun u => [(1, .bref b_ 0), (3, .str (preC held 1))]) [] (fun u => [⟨b_, .row 4 [.agg [.int .i64 kind, .int .i32 r, .int .i64 n, .int .i64 held]] 0⟩]) (fun u => True) ?_ ?_ | refine' joinF (α := Unit) (fun u => [(1, .bref b_ 0), (3, .str (preC held 1))]) [] (fun u => [⟨b_, .row 4 [.agg [.int .i64 kind, .int .i32 r, .int .i64 n, .int .i64 held]] 0⟩]) (fun u => True) ?_ ?_
  · clear hn12 hkb hfl
    have hp1 := preC_len held 1
    have hp2 := preC_len held 2
    rcases (by omega : held = 0 ∨ held = 1 ∨ held = 2 ∨ held = 3 ∨ held = 4 ∨ held = 5 ∨ held = 6 ∨ held = 7) with rfl | rfl | rfl | rfl | rfl | rfl | rfl | rfl
    all_goals
      (refine g1_ ?_; repeat ((first | refine n1_ fun b_ => ?_ | refine n2_ fun b_ => ?_ | refine Nat1.mk fun q_ hq_ => ?_ | refine em_ fun x_ hx_ => ?_ | refine Elem1.mk fun e_ he_ => ?_); refine g1_ ?_))
      refine jx_ () ?_
      trivial
  rintro - -
  (refine gj_ ?_; repeat ((first | refine n1_ fun b_ => ?_ | refine n2_ fun b_ => ?_ | refine Nat1.mk fun q_ hq_ => ?_ | refine em_ fun x_ hx_ => ?_ | refine Elem1.mk fun e_ he_ => ?_); refine gj_ ?_))
  first | refine' joinT (α := Unit) (fun u => [(1, .bref b_ 0), (3, .str (preC held 2))]) [] (fun u => [⟨b_, .row 4 [.agg [.int .i64 kind, .int .i32 r, .int .i64 n, .int .i64 held]] 0⟩]) (fun u => True) ?_ ?_ | refine' joinF (α := Unit) (fun u => [(1, .bref b_ 0), (3, .str (preC held 2))]) [] (fun u => [⟨b_, .row 4 [.agg [.int .i64 kind, .int .i32 r, .int .i64 n, .int .i64 held]] 0⟩]) (fun u => True) ?_ ?_
  · clear hn12 hkb hfl
    have hp1 := preC_len held 1
    have hp2 := preC_len held 2
    rcases (by omega : held = 0 ∨ held = 1 ∨ held = 2 ∨ held = 3 ∨ held = 4 ∨ held = 5 ∨ held = 6 ∨ held = 7) with rfl | rfl | rfl | rfl | rfl | rfl | rfl | rfl
    all_goals
      (refine g1_ ?_; repeat ((first | refine n1_ fun b_ => ?_ | refine n2_ fun b_ => ?_ | refine Nat1.mk fun q_ hq_ => ?_ | refine em_ fun x_ hx_ => ?_ | refine Elem1.mk fun e_ he_ => ?_); refine g1_ ?_))
      refine jx_ () ?_
      trivial
  rintro - -
  (refine gj_ ?_; repeat ((first | refine n1_ fun b_ => ?_ | refine n2_ fun b_ => ?_ | refine Nat1.mk fun q_ hq_ => ?_ | refine em_ fun x_ hx_ => ?_ | refine Elem1.mk fun e_ he_ => ?_); refine gj_ ?_))
  first | refine' joinT (α := Unit) (fun u => [(1, .bref b_ 0), (3, .str (preC held 3))]) [] (fun u => [⟨b_, .row 4 [.agg [.int .i64 kind, .int .i32 r, .int .i64 n, .int .i64 held]] 0⟩]) (fun u => True) ?_ ?_ | refine' joinF (α := Unit) (fun u => [(1, .bref b_ 0), (3, .str (preC held 3))]) [] (fun u => [⟨b_, .row 4 [.agg [.int .i64 kind, .int .i32 r, .int .i64 n, .int .i64 held]] 0⟩]) (fun u => True) ?_ ?_
  · clear hn12 hkb hfl
    have hp1 := preC_len held 1
    have hp2 := preC_len held 2
    rcases (by omega : held = 0 ∨ held = 1 ∨ held = 2 ∨ held = 3 ∨ held = 4 ∨ held = 5 ∨ held = 6 ∨ held = 7) with rfl | rfl | rfl | rfl | rfl | rfl | rfl | rfl
    all_goals
      (refine g1_ ?_; repeat ((first | refine n1_ fun b_ => ?_ | refine n2_ fun b_ => ?_ | refine Nat1.mk fun q_ hq_ => ?_ | refine em_ fun x_ hx_ => ?_ | refine Elem1.mk fun e_ he_ => ?_); refine g1_ ?_))
      refine jx_ () ?_
      trivial
  rintro - -
  have hpl : (preC held 3).length ≤ 6 := pre_len held
  unfold nameK
  dsimp only
  rw [show modK held = preC held 3 from rfl]
  generalize preC held 3 = P at *
  by_cases k1 : kind = 1
  · subst k1
    rw [if_pos rfl]
    by_cases k32 : r = 32
    · subst k32
      rw [if_pos rfl]
      (refine g0_ ?_; repeat ((first | refine n1_ fun b_ => ?_ | refine n2_ fun b_ => ?_ | refine Nat1.mk fun q_ hq_ => ?_ | refine em_ fun x_ hx_ => ?_ | refine Elem1.mk fun e_ he_ => ?_); refine g0_ ?_))
      (refine g1_ ?_; repeat ((first | refine n1_ fun b_ => ?_ | refine n2_ fun b_ => ?_ | refine Nat1.mk fun q_ hq_ => ?_ | refine em_ fun x_ hx_ => ?_ | refine Elem1.mk fun e_ he_ => ?_); refine g1_ ?_))
      exact .refl _
    · rw [if_neg k32]
      have hel := enc_le r
      (refine g0_ ?_; repeat ((first | refine n1_ fun b_ => ?_ | refine n2_ fun b_ => ?_ | refine Nat1.mk fun q_ hq_ => ?_ | refine em_ fun x_ hx_ => ?_ | refine Elem1.mk fun e_ he_ => ?_); refine g0_ ?_))
      (refine g1_ ?_; repeat ((first | refine n1_ fun b_ => ?_ | refine n2_ fun b_ => ?_ | refine Nat1.mk fun q_ hq_ => ?_ | refine em_ fun x_ hx_ => ?_ | refine Elem1.mk fun e_ he_ => ?_); refine g1_ ?_))
      rw [enc_utf8]
      refine need.mk (by omega) ?_
      (refine g0_ ?_; repeat ((first | refine n1_ fun b_ => ?_ | refine n2_ fun b_ => ?_ | refine Nat1.mk fun q_ hq_ => ?_ | refine em_ fun x_ hx_ => ?_ | refine Elem1.mk fun e_ he_ => ?_); refine g0_ ?_))
      exact .refl _
  · rw [if_neg k1]
    by_cases k15 : kind = 15
    · subst k15
      rw [if_pos rfl]
      have hi := itoa_ok W hN n (by unfold i64ok; omega)
      have hil := itoa_len3 n (by omega)
      generalize Lib.itoa n = I at *
      rw [← List.append_assoc]
      (refine g0_ ?_; repeat ((first | refine n1_ fun b_ => ?_ | refine n2_ fun b_ => ?_ | refine Nat1.mk fun q_ hq_ => ?_ | refine em_ fun x_ hx_ => ?_ | refine Elem1.mk fun e_ he_ => ?_); refine g0_ ?_))
      (refine g1_ ?_; repeat ((first | refine n1_ fun b_ => ?_ | refine n2_ fun b_ => ?_ | refine Nat1.mk fun q_ hq_ => ?_ | refine em_ fun x_ hx_ => ?_ | refine Elem1.mk fun e_ he_ => ?_); refine g1_ ?_))
      refine (hi).use ?_; (refine g0_ ?_; repeat ((first | refine n1_ fun b_ => ?_ | refine n2_ fun b_ => ?_ | refine Nat1.mk fun q_ hq_ => ?_ | refine em_ fun x_ hx_ => ?_ | refine Elem1.mk fun e_ he_ => ?_); refine g0_ ?_))
      (refine g1_ ?_; repeat ((first | refine n1_ fun b_ => ?_ | refine n2_ fun b_ => ?_ | refine Nat1.mk fun q_ hq_ => ?_ | refine em_ fun x_ hx_ => ?_ | refine Elem1.mk fun e_ he_ => ?_); refine g1_ ?_))
      exact .refl _
    · rw [if_neg k15]
      clear hn12
      rcases (by omega : kind = 2 ∨ kind = 3 ∨ kind = 4 ∨ kind = 5 ∨ kind = 6 ∨ kind = 7 ∨ kind = 8 ∨ kind = 9 ∨ kind = 10 ∨ kind = 11 ∨ kind = 12 ∨ kind = 13 ∨ kind = 14) with rfl | rfl | rfl | rfl | rfl | rfl | rfl | rfl | rfl | rfl | rfl | rfl | rfl
      all_goals
        (refine g0_ ?_; repeat ((first | refine n1_ fun b_ => ?_ | refine n2_ fun b_ => ?_ | refine Nat1.mk fun q_ hq_ => ?_ | refine em_ fun x_ hx_ => ?_ | refine Elem1.mk fun e_ he_ => ?_); refine g0_ ?_))
        (refine g1_ ?_; repeat ((first | refine n1_ fun b_ => ?_ | refine n2_ fun b_ => ?_ | refine Nat1.mk fun q_ hq_ => ?_ | refine em_ fun x_ hx_ => ?_ | refine Elem1.mk fun e_ he_ => ?_); refine g1_ ?_))
        refine head_ ?_; (refine g0_ ?_; repeat ((first | refine n1_ fun b_ => ?_ | refine n2_ fun b_ => ?_ | refine Nat1.mk fun q_ hq_ => ?_ | refine em_ fun x_ hx_ => ?_ | refine Elem1.mk fun e_ he_ => ?_); refine g0_ ?_))
        refine ⟨_, (hfl).quiet, ?_⟩; (refine g0_ ?_; repeat ((first | refine n1_ fun b_ => ?_ | refine n2_ fun b_ => ?_ | refine Nat1.mk fun q_ hq_ => ?_ | refine em_ fun x_ hx_ => ?_ | refine Elem1.mk fun e_ he_ => ?_); refine g0_ ?_))
        (refine g1_ ?_; repeat ((first | refine n1_ fun b_ => ?_ | refine n2_ fun b_ => ?_ | refine Nat1.mk fun q_ hq_ => ?_ | refine em_ fun x_ hx_ => ?_ | refine Elem1.mk fun e_ he_ => ?_); refine g1_ ?_))
        exact .refl _
end Go.Eng.YtbaokhehnilneaaGreatDoor
end
