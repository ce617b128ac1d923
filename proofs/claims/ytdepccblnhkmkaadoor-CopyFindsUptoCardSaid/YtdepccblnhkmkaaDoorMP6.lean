/- Texts put together: Copy15. -/
import Derived.Test.YtdepccblnhkmkaaDoorMP5
import Derived.Test.YtdepccblnhkmkaaDoorMP3
/- The law CopyFinds. -/
section
namespace Go.Eng.YtdepccblnhkmkaaDoor
open Go Go.Eng Go.Proofs
variable (W : World)
set_option linter.unusedSimpArgs false
set_option maxRecDepth 100000
set_option linter.unusedVariables false
set_option maxHeartbeats 8000000
theorem findF_at (w : List Nat) (p : Nat → Bool) : ∀ (l : List (Nat × Nat)) (x : Nat), findF w p l = some x → ∃ k q, l[k]? = some q ∧ q.2 = x ∧ standsL (l.drop k) w = true
  | [], x, h => by simp [findF] at h
  | q :: l, x, h => by
    rw [findF] at h
    split at h
    · rename_i hs
      cases h
      exact ⟨0, q, rfl, rfl, hs.2⟩
    · obtain ⟨k, r, h1, h2, h3⟩ := findF_at w p l x h
      exact ⟨k + 1, r, by simpa using h1, h2, by simpa using h3⟩
theorem seekM_at {ls : List (List UInt8)} {w : List Nat} {m r : Mark} (h0 : 0 < ls.length) (h : seekM ls w m = some r) : ∃ (y : Nat) (s : List UInt8) (k : Nat) (q : Nat × Nat), ls[y]? = some s ∧ r = ⟨min (q.2 : Int) 120, y⟩ ∧ (spotsL s)[k]? = some q ∧ standsL ((spotsL s).drop k) w = true := by
  obtain ⟨n, _, hn⟩ := List.exists_of_findSome?_eq_some h
  rw [stepS] at hn
  obtain ⟨x, hx, rfl⟩ := Option.map_eq_some_iff.1 hn
  obtain ⟨k, q, h1, rfl, h3⟩ := findF_at _ _ _ x hx
  have hlt : (m.y.toNat + n) % ls.length < ls.length := Nat.mod_lt _ h0
  obtain ⟨s, hs⟩ : ∃ s, ls[(m.y.toNat + n) % ls.length]? = some s := ⟨_, List.getElem?_eq_getElem hlt⟩
  have hsd : ls.getD ((m.y.toNat + n) % ls.length) [] = s := by rw [List.getD_eq_getElem?_getD, hs]; rfl
  rw [hsd] at h1 h3
  exact ⟨_, s, k, q, hs, rfl, h1, h3⟩
/-- What is taken from a rune on to the end of the line. -/
theorem takeB_from (F G : Int) (k : Nat) : ∀ (l : List (Nat × Nat)) (j : Nat), (∀ i p, l[i]? = some p → ((F ≤ (j + i : Nat) ∧ ((j + i : Nat) : Int) ≤ G) ↔ k ≤ j + i)) → takeB F G j l = encRs ((l.drop (k - j)).map Prod.fst)
  | [], j, _ => by rw [takeB, List.drop_nil]; rfl
  | p :: l, j, h => by
    have ih := takeB_from F G k l (j + 1) fun i q hq => by
      have := h (i + 1) q (by simpa using hq)
      rwa [show j + (i + 1) = j + 1 + i by omega] at this
    have h0 := h 0 p rfl
    rw [Nat.add_zero] at h0
    rw [takeB, ih]
    by_cases hk : k ≤ j
    · rw [if_pos (h0.2 hk), show k - (j + 1) = 0 by omega, show k - j = 0 by omega, List.drop_zero, List.drop_zero, List.map_cons, encRs]
    · rw [if_neg (fun h => hk (h0.1 h)), List.nil_append, show k - j = (k - (j + 1)) + 1 by omega, List.drop_succ_cons]
theorem end_ge {s : List UInt8} {k : Nat} {q : Nat × Nat} (hq : (spotsL s)[k]? = some q) : (q.2 : Int) ≤ endL s ∧ ∀ (j : Nat) (p : Nat × Nat), (spotsL s)[j]? = some p → (p.2 : Int) ≤ endL s := by
  have key : ∀ (j : Nat) (p : Nat × Nat), (spotsL s)[j]? = some p → (p.2 : Int) ≤ endL s := fun j p hp => by
    have hj := lt_of_at hp
    obtain ⟨pl, hpl⟩ : ∃ pl, (spotsL s)[(spotsL s).length - 1]? = some pl := ⟨_, List.getElem?_eq_getElem (by omega)⟩
    have := spots_le s (show j ≤ (spotsL s).length - 1 by omega) hp hpl
    rw [endL, List.getLast?_eq_getElem?, hpl]
    dsimp only; omega
  exact ⟨key k q hq, key⟩
theorem take_found {s : List UInt8} {k : Nat} {q : Nat × Nat} (hq : (spotsL s)[k]? = some q) (y : Nat) : lineT ⟨q.2, y⟩ ⟨endL s, y⟩ s y = encRs (((spotsL s).drop k).map Prod.fst) := by
  obtain ⟨_, he⟩ := end_ge hq
  rw [lineT]
  refine (takeB_from _ _ k (spotsL s) 0 fun i p hp => ?_).trans (by rw [Nat.sub_zero])
  rw [Nat.zero_add]
  have h1 := keep_iff (a := ⟨q.2, y⟩) (b := ⟨endL s, y⟩) (y := y) (Int.le_refl _) (Int.le_refl _) hp
  dsimp only at h1
  rw [h1]
  have h2 := he i p hp
  have h3 := spots_pos s hq
  have h4 := spots_pos s hp
  constructor
  · rintro ⟨h5, _⟩
    apply Decidable.byContradiction
    intro h6
    obtain ⟨d, hd⟩ := Nat.exists_eq_add_of_lt (show i < k by omega)
    have := spots_lt s hp d q (by rw [show i + 1 + d = k by omega]; exact hq)
    omega
  · intro h5
    have := spots_le s h5 hq hp
    exact ⟨.inr (by omega), .inr h2⟩
theorem copyFinds_ok (hT : Tabs W) (ls : List (List UInt8)) (hk : ∀ s ∈ ls, True) (hf : ls.length * 16 ≤ 140737488351232 ∧ ∀ s ∈ ls, s.length ≤ 140737488351232) (c : Copying) (hc : c.ok) (what : List UInt8) (hw : what.length ≤ 1048576) :
    Pure Tryd.prog W 5 [encLines ls, encCopying c, .str what] (.bool true) := by
  have hl : ls.length ≤ 17592186044416 := by omega
  have hb : ∀ s ∈ ls, s.length ≤ 140737488355328 := fun s hs => by have := hf.2 s hs; omega
  have hse := seek_ok W hT ls c what hl hb hw
  have hcl := cleanOf_ok W what hw
  have hco := copied_ok W hT
  by_cases h : checkC ls c = 0
  · obtain ⟨g1, g2, g3, g4⟩ := check_zero h
    by_cases hx : wantL what = [] ∨ 4000 < what.length
    · have e1 : seekE ls c what = (noCopying, 1) := by rw [seekE, if_neg (by simpa using h), if_pos hx]
      rw [e1] at hse
      dsimp only at hse
      refine Pure.of (acalls_of_vc (drawOk W) Tryd.func5 rfl (by decide) (by decide) rfl ?_)
      (refine g0_ ?_; repeat ((first | refine n1_ fun b_ => ?_ | refine n2_ fun b_ => ?_ | refine Nat1.mk fun q_ hq_ => ?_ | refine em_ fun x_ hx_ => ?_ | refine Elem1.mk fun e_ he_ => ?_); refine g0_ ?_))
      refine (hse).use ?_; (refine g0_ ?_; repeat ((first | refine n1_ fun b_ => ?_ | refine n2_ fun b_ => ?_ | refine Nat1.mk fun q_ hq_ => ?_ | refine em_ fun x_ hx_ => ?_ | refine Elem1.mk fun e_ he_ => ?_); refine g0_ ?_))
      refine (hco).use ?_; (refine g0_ ?_; repeat ((first | refine n1_ fun b_ => ?_ | refine n2_ fun b_ => ?_ | refine Nat1.mk fun q_ hq_ => ?_ | refine em_ fun x_ hx_ => ?_ | refine Elem1.mk fun e_ he_ => ?_); refine g0_ ?_))
      (refine g1_ ?_; repeat ((first | refine n1_ fun b_ => ?_ | refine n2_ fun b_ => ?_ | refine Nat1.mk fun q_ hq_ => ?_ | refine em_ fun x_ hx_ => ?_ | refine Elem1.mk fun e_ he_ => ?_); refine g1_ ?_))
      refine (hco).use ?_; (refine g0_ ?_; repeat ((first | refine n1_ fun b_ => ?_ | refine n2_ fun b_ => ?_ | refine Nat1.mk fun q_ hq_ => ?_ | refine em_ fun x_ hx_ => ?_ | refine Elem1.mk fun e_ he_ => ?_); refine g0_ ?_))
      exact .refl _
    · cases hm : seekM ls (wantL what) c.at_ with
      | none =>
        have e1 : seekE ls c what = (noCopying, 8) := by rw [seekE, if_neg (by simpa using h), if_neg hx, hm]
        rw [e1] at hse
        dsimp only at hse
        refine Pure.of (acalls_of_vc (drawOk W) Tryd.func5 rfl (by decide) (by decide) rfl ?_)
        (refine g0_ ?_; repeat ((first | refine n1_ fun b_ => ?_ | refine n2_ fun b_ => ?_ | refine Nat1.mk fun q_ hq_ => ?_ | refine em_ fun x_ hx_ => ?_ | refine Elem1.mk fun e_ he_ => ?_); refine g0_ ?_))
        refine (hse).use ?_; (refine g0_ ?_; repeat ((first | refine n1_ fun b_ => ?_ | refine n2_ fun b_ => ?_ | refine Nat1.mk fun q_ hq_ => ?_ | refine em_ fun x_ hx_ => ?_ | refine Elem1.mk fun e_ he_ => ?_); refine g0_ ?_))
        refine (hco).use ?_; (refine g0_ ?_; repeat ((first | refine n1_ fun b_ => ?_ | refine n2_ fun b_ => ?_ | refine Nat1.mk fun q_ hq_ => ?_ | refine em_ fun x_ hx_ => ?_ | refine Elem1.mk fun e_ he_ => ?_); refine g0_ ?_))
        (refine g1_ ?_; repeat ((first | refine n1_ fun b_ => ?_ | refine n2_ fun b_ => ?_ | refine Nat1.mk fun q_ hq_ => ?_ | refine em_ fun x_ hx_ => ?_ | refine Elem1.mk fun e_ he_ => ?_); refine g1_ ?_))
        refine (hco).use ?_; (refine g0_ ?_; repeat ((first | refine n1_ fun b_ => ?_ | refine n2_ fun b_ => ?_ | refine Nat1.mk fun q_ hq_ => ?_ | refine em_ fun x_ hx_ => ?_ | refine Elem1.mk fun e_ he_ => ?_); refine g0_ ?_))
        exact .refl _
      | some r =>
        have e1 : seekE ls c what = (⟨r, c.from_, c.on⟩, 0) := by rw [seekE, if_neg (by simpa using h), if_neg hx, hm]
        rw [e1] at hse
        dsimp only at hse
        obtain ⟨y, s, k, q, hs, rfl, hq, hst⟩ := seekM_at (by omega) hm
        have hy := lt_of_at hs
        have hsb := g2 s (List.mem_of_getElem? hs)
        by_cases hX : (q.2 : Int) < 120
        · rw [show min (q.2 : Int) 120 = q.2 by omega] at hse
          have hen := endL_rng s
          have hge := (end_ge hq).1
          have hck : ∀ (a b : Mark) (o : Bool), (0 ≤ a.y ∧ a.y < ls.length ∧ 0 ≤ a.x ∧ a.x ≤ 120) → (0 ≤ b.y ∧ b.y < ls.length ∧ 0 ≤ b.x ∧ b.x ≤ 120) → checkC ls ⟨a, b, o⟩ = 0 := fun a b o ha hb => by
            rw [checkC, if_neg (by omega), if_neg (by
              rw [List.any_eq_true]
              rintro ⟨t, ht, h2⟩
              have := g2 t ht
              simp at h2; omega), if_neg]
            unfold badM
            simp; omega
          have c1 : checkC ls ⟨⟨q.2, y⟩, c.from_, c.on⟩ = 0 := hck _ _ _ (by dsimp only; omega) g4
          have c2 : checkC ls ⟨⟨q.2, y⟩, ⟨q.2, y⟩, true⟩ = 0 := hck _ _ _ (by dsimp only; omega) (by dsimp only; omega)
          have c3 : checkC ls ⟨⟨min (endL s) 120, y⟩, ⟨q.2, y⟩, true⟩ = 0 := hck _ _ _ (by dsimp only; omega) (by dsimp only; omega)
          have hsl := select_ok W ls ⟨⟨q.2, y⟩, c.from_, c.on⟩ true hl hb
          rw [selectE, if_neg (by simpa using c1)] at hsl
          dsimp only at hsl
          rw [if_pos rfl] at hsl
          have hmv := move_ok W hT ls ⟨⟨q.2, y⟩, ⟨q.2, y⟩, true⟩ endS hl hb
          have hsd : ls.getD y [] = s := by rw [List.getD_eq_getElem?_getD, hs]; rfl
          have hmb : moveB ls ⟨q.2, y⟩ endS = (⟨min (endL s) 120, y⟩, true) := by
            rw [moveB, show moveM ls ⟨q.2, y⟩ endS = some ⟨endL s, y⟩ by
              rw [moveM]
              dsimp only
              rw [Int.toNat_natCast, hsd]
              rfl]
          rw [moveE, if_neg (by simpa using c2)] at hmv
          dsimp only at hmv
          rw [hmb, if_pos rfl] at hmv
          dsimp only at hmv
          have htk := take_ok W hT ls ⟨⟨min (endL s) 120, y⟩, ⟨q.2, y⟩, true⟩ hl hb
          rw [takeE, if_neg (by simpa using c3), if_neg (show ¬ (true = false) by decide)] at htk
          dsimp only at htk
          have hor : orderM ⟨q.2, y⟩ ⟨min (endL s) 120, y⟩ = (⟨q.2, y⟩, ⟨min (endL s) 120, y⟩) := by
            rw [orderM, if_neg]
            dsimp only; omega
          rw [hor] at htk
          dsimp only at htk
          by_cases hE : endL s < 120
          · have hme : min (endL s) 120 = endL s := by omega
            have htx : textT ls ⟨q.2, y⟩ ⟨min (endL s) 120, y⟩ = encRs (((spotsL s).drop k).map Prod.fst) := by
              rw [hme, textT]
              dsimp only
              rw [Int.toNat_natCast, show y + 1 - y = 1 by omega, rowsT_succ, hsd, take_found hq]
              rw [show rowsT ls ⟨q.2, y⟩ ⟨endL s, y⟩ (y + 1) 0 = [] from rfl]
              simp [Lib.join]
            rw [htx] at htk
            have hpre : Lib.hasPrefix (encRs (((spotsL s).drop k).map Prod.fst)) (cleanL what) = true := by
              rw [List.map_drop, stands_iff, hst]
            by_cases hlong : 4000 < (encRs (((spotsL s).drop k).map Prod.fst)).length
            · rw [if_pos hlong] at htk
              dsimp only at htk
              refine Pure.of (acalls_of_vc (drawOk W) Tryd.func5 rfl (by decide) (by decide) rfl ?_)
              (refine g0_ ?_; repeat ((first | refine n1_ fun b_ => ?_ | refine n2_ fun b_ => ?_ | refine Nat1.mk fun q_ hq_ => ?_ | refine em_ fun x_ hx_ => ?_ | refine Elem1.mk fun e_ he_ => ?_); refine g0_ ?_))
              refine (hse).use ?_; (refine g0_ ?_; repeat ((first | refine n1_ fun b_ => ?_ | refine n2_ fun b_ => ?_ | refine Nat1.mk fun q_ hq_ => ?_ | refine em_ fun x_ hx_ => ?_ | refine Elem1.mk fun e_ he_ => ?_); refine g0_ ?_))
              refine (hco).use ?_; (refine g0_ ?_; repeat ((first | refine n1_ fun b_ => ?_ | refine n2_ fun b_ => ?_ | refine Nat1.mk fun q_ hq_ => ?_ | refine em_ fun x_ hx_ => ?_ | refine Elem1.mk fun e_ he_ => ?_); refine g0_ ?_))
              (refine g1_ ?_; repeat ((first | refine n1_ fun b_ => ?_ | refine n2_ fun b_ => ?_ | refine Nat1.mk fun q_ hq_ => ?_ | refine em_ fun x_ hx_ => ?_ | refine Elem1.mk fun e_ he_ => ?_); refine g1_ ?_))
              refine (hsl).use ?_; (refine g0_ ?_; repeat ((first | refine n1_ fun b_ => ?_ | refine n2_ fun b_ => ?_ | refine Nat1.mk fun q_ hq_ => ?_ | refine em_ fun x_ hx_ => ?_ | refine Elem1.mk fun e_ he_ => ?_); refine g0_ ?_))
              refine (hmv).use ?_; (refine g0_ ?_; repeat ((first | refine n1_ fun b_ => ?_ | refine n2_ fun b_ => ?_ | refine Nat1.mk fun q_ hq_ => ?_ | refine em_ fun x_ hx_ => ?_ | refine Elem1.mk fun e_ he_ => ?_); refine g0_ ?_))
              refine (htk).use ?_; (refine g0_ ?_; repeat ((first | refine n1_ fun b_ => ?_ | refine n2_ fun b_ => ?_ | refine Nat1.mk fun q_ hq_ => ?_ | refine em_ fun x_ hx_ => ?_ | refine Elem1.mk fun e_ he_ => ?_); refine g0_ ?_))
              (refine g1_ ?_; repeat ((first | refine n1_ fun b_ => ?_ | refine n2_ fun b_ => ?_ | refine Nat1.mk fun q_ hq_ => ?_ | refine em_ fun x_ hx_ => ?_ | refine Elem1.mk fun e_ he_ => ?_); refine g1_ ?_))
              exact Frz.of_eq (by simp)
            · rw [if_neg hlong] at htk
              dsimp only at htk
              refine Pure.of (acalls_of_vc (drawOk W) Tryd.func5 rfl (by decide) (by decide) rfl ?_)
              (refine g0_ ?_; repeat ((first | refine n1_ fun b_ => ?_ | refine n2_ fun b_ => ?_ | refine Nat1.mk fun q_ hq_ => ?_ | refine em_ fun x_ hx_ => ?_ | refine Elem1.mk fun e_ he_ => ?_); refine g0_ ?_))
              refine (hse).use ?_; (refine g0_ ?_; repeat ((first | refine n1_ fun b_ => ?_ | refine n2_ fun b_ => ?_ | refine Nat1.mk fun q_ hq_ => ?_ | refine em_ fun x_ hx_ => ?_ | refine Elem1.mk fun e_ he_ => ?_); refine g0_ ?_))
              refine (hco).use ?_; (refine g0_ ?_; repeat ((first | refine n1_ fun b_ => ?_ | refine n2_ fun b_ => ?_ | refine Nat1.mk fun q_ hq_ => ?_ | refine em_ fun x_ hx_ => ?_ | refine Elem1.mk fun e_ he_ => ?_); refine g0_ ?_))
              (refine g1_ ?_; repeat ((first | refine n1_ fun b_ => ?_ | refine n2_ fun b_ => ?_ | refine Nat1.mk fun q_ hq_ => ?_ | refine em_ fun x_ hx_ => ?_ | refine Elem1.mk fun e_ he_ => ?_); refine g1_ ?_))
              refine (hsl).use ?_; (refine g0_ ?_; repeat ((first | refine n1_ fun b_ => ?_ | refine n2_ fun b_ => ?_ | refine Nat1.mk fun q_ hq_ => ?_ | refine em_ fun x_ hx_ => ?_ | refine Elem1.mk fun e_ he_ => ?_); refine g0_ ?_))
              refine (hmv).use ?_; (refine g0_ ?_; repeat ((first | refine n1_ fun b_ => ?_ | refine n2_ fun b_ => ?_ | refine Nat1.mk fun q_ hq_ => ?_ | refine em_ fun x_ hx_ => ?_ | refine Elem1.mk fun e_ he_ => ?_); refine g0_ ?_))
              refine (htk).use ?_; (refine g0_ ?_; repeat ((first | refine n1_ fun b_ => ?_ | refine n2_ fun b_ => ?_ | refine Nat1.mk fun q_ hq_ => ?_ | refine em_ fun x_ hx_ => ?_ | refine Elem1.mk fun e_ he_ => ?_); refine g0_ ?_))
              (refine g1_ ?_; repeat ((first | refine n1_ fun b_ => ?_ | refine n2_ fun b_ => ?_ | refine Nat1.mk fun q_ hq_ => ?_ | refine em_ fun x_ hx_ => ?_ | refine Elem1.mk fun e_ he_ => ?_); refine g1_ ?_))
              refine hcl.use ?_
              (refine g1_ ?_; repeat ((first | refine n1_ fun b_ => ?_ | refine n2_ fun b_ => ?_ | refine Nat1.mk fun q_ hq_ => ?_ | refine em_ fun x_ hx_ => ?_ | refine Elem1.mk fun e_ he_ => ?_); refine g1_ ?_))
              refine (hasPrefix_ok W _ _).use ?_; (refine g0_ ?_; repeat ((first | refine n1_ fun b_ => ?_ | refine n2_ fun b_ => ?_ | refine Nat1.mk fun q_ hq_ => ?_ | refine em_ fun x_ hx_ => ?_ | refine Elem1.mk fun e_ he_ => ?_); refine g0_ ?_))
              rw [hpre]
              exact Frz.of_eq (by simp)
          · have hme : min (endL s) 120 = 120 := by omega
            rw [hme] at htk hmv
            by_cases hlong : 4000 < (textT ls ⟨q.2, y⟩ ⟨120, y⟩).length
            · rw [if_pos hlong] at htk
              dsimp only at htk
              refine Pure.of (acalls_of_vc (drawOk W) Tryd.func5 rfl (by decide) (by decide) rfl ?_)
              (refine g0_ ?_; repeat ((first | refine n1_ fun b_ => ?_ | refine n2_ fun b_ => ?_ | refine Nat1.mk fun q_ hq_ => ?_ | refine em_ fun x_ hx_ => ?_ | refine Elem1.mk fun e_ he_ => ?_); refine g0_ ?_))
              refine (hse).use ?_; (refine g0_ ?_; repeat ((first | refine n1_ fun b_ => ?_ | refine n2_ fun b_ => ?_ | refine Nat1.mk fun q_ hq_ => ?_ | refine em_ fun x_ hx_ => ?_ | refine Elem1.mk fun e_ he_ => ?_); refine g0_ ?_))
              refine (hco).use ?_; (refine g0_ ?_; repeat ((first | refine n1_ fun b_ => ?_ | refine n2_ fun b_ => ?_ | refine Nat1.mk fun q_ hq_ => ?_ | refine em_ fun x_ hx_ => ?_ | refine Elem1.mk fun e_ he_ => ?_); refine g0_ ?_))
              (refine g1_ ?_; repeat ((first | refine n1_ fun b_ => ?_ | refine n2_ fun b_ => ?_ | refine Nat1.mk fun q_ hq_ => ?_ | refine em_ fun x_ hx_ => ?_ | refine Elem1.mk fun e_ he_ => ?_); refine g1_ ?_))
              refine (hsl).use ?_; (refine g0_ ?_; repeat ((first | refine n1_ fun b_ => ?_ | refine n2_ fun b_ => ?_ | refine Nat1.mk fun q_ hq_ => ?_ | refine em_ fun x_ hx_ => ?_ | refine Elem1.mk fun e_ he_ => ?_); refine g0_ ?_))
              refine (hmv).use ?_; (refine g0_ ?_; repeat ((first | refine n1_ fun b_ => ?_ | refine n2_ fun b_ => ?_ | refine Nat1.mk fun q_ hq_ => ?_ | refine em_ fun x_ hx_ => ?_ | refine Elem1.mk fun e_ he_ => ?_); refine g0_ ?_))
              refine (htk).use ?_; (refine g0_ ?_; repeat ((first | refine n1_ fun b_ => ?_ | refine n2_ fun b_ => ?_ | refine Nat1.mk fun q_ hq_ => ?_ | refine em_ fun x_ hx_ => ?_ | refine Elem1.mk fun e_ he_ => ?_); refine g0_ ?_))
              (refine g1_ ?_; repeat ((first | refine n1_ fun b_ => ?_ | refine n2_ fun b_ => ?_ | refine Nat1.mk fun q_ hq_ => ?_ | refine em_ fun x_ hx_ => ?_ | refine Elem1.mk fun e_ he_ => ?_); refine g1_ ?_))
              exact Frz.of_eq (by simp)
            · rw [if_neg hlong] at htk
              dsimp only at htk
              refine Pure.of (acalls_of_vc (drawOk W) Tryd.func5 rfl (by decide) (by decide) rfl ?_)
              (refine g0_ ?_; repeat ((first | refine n1_ fun b_ => ?_ | refine n2_ fun b_ => ?_ | refine Nat1.mk fun q_ hq_ => ?_ | refine em_ fun x_ hx_ => ?_ | refine Elem1.mk fun e_ he_ => ?_); refine g0_ ?_))
              refine (hse).use ?_; (refine g0_ ?_; repeat ((first | refine n1_ fun b_ => ?_ | refine n2_ fun b_ => ?_ | refine Nat1.mk fun q_ hq_ => ?_ | refine em_ fun x_ hx_ => ?_ | refine Elem1.mk fun e_ he_ => ?_); refine g0_ ?_))
              refine (hco).use ?_; (refine g0_ ?_; repeat ((first | refine n1_ fun b_ => ?_ | refine n2_ fun b_ => ?_ | refine Nat1.mk fun q_ hq_ => ?_ | refine em_ fun x_ hx_ => ?_ | refine Elem1.mk fun e_ he_ => ?_); refine g0_ ?_))
              (refine g1_ ?_; repeat ((first | refine n1_ fun b_ => ?_ | refine n2_ fun b_ => ?_ | refine Nat1.mk fun q_ hq_ => ?_ | refine em_ fun x_ hx_ => ?_ | refine Elem1.mk fun e_ he_ => ?_); refine g1_ ?_))
              refine (hsl).use ?_; (refine g0_ ?_; repeat ((first | refine n1_ fun b_ => ?_ | refine n2_ fun b_ => ?_ | refine Nat1.mk fun q_ hq_ => ?_ | refine em_ fun x_ hx_ => ?_ | refine Elem1.mk fun e_ he_ => ?_); refine g0_ ?_))
              refine (hmv).use ?_; (refine g0_ ?_; repeat ((first | refine n1_ fun b_ => ?_ | refine n2_ fun b_ => ?_ | refine Nat1.mk fun q_ hq_ => ?_ | refine em_ fun x_ hx_ => ?_ | refine Elem1.mk fun e_ he_ => ?_); refine g0_ ?_))
              refine (htk).use ?_; (refine g0_ ?_; repeat ((first | refine n1_ fun b_ => ?_ | refine n2_ fun b_ => ?_ | refine Nat1.mk fun q_ hq_ => ?_ | refine em_ fun x_ hx_ => ?_ | refine Elem1.mk fun e_ he_ => ?_); refine g0_ ?_))
              (refine g1_ ?_; repeat ((first | refine n1_ fun b_ => ?_ | refine n2_ fun b_ => ?_ | refine Nat1.mk fun q_ hq_ => ?_ | refine em_ fun x_ hx_ => ?_ | refine Elem1.mk fun e_ he_ => ?_); refine g1_ ?_))
              exact Frz.of_eq (by simp)
        · rw [show min (q.2 : Int) 120 = 120 by omega] at hse
          refine Pure.of (acalls_of_vc (drawOk W) Tryd.func5 rfl (by decide) (by decide) rfl ?_)
          (refine g0_ ?_; repeat ((first | refine n1_ fun b_ => ?_ | refine n2_ fun b_ => ?_ | refine Nat1.mk fun q_ hq_ => ?_ | refine em_ fun x_ hx_ => ?_ | refine Elem1.mk fun e_ he_ => ?_); refine g0_ ?_))
          refine (hse).use ?_; (refine g0_ ?_; repeat ((first | refine n1_ fun b_ => ?_ | refine n2_ fun b_ => ?_ | refine Nat1.mk fun q_ hq_ => ?_ | refine em_ fun x_ hx_ => ?_ | refine Elem1.mk fun e_ he_ => ?_); refine g0_ ?_))
          refine (hco).use ?_; (refine g0_ ?_; repeat ((first | refine n1_ fun b_ => ?_ | refine n2_ fun b_ => ?_ | refine Nat1.mk fun q_ hq_ => ?_ | refine em_ fun x_ hx_ => ?_ | refine Elem1.mk fun e_ he_ => ?_); refine g0_ ?_))
          (refine g1_ ?_; repeat ((first | refine n1_ fun b_ => ?_ | refine n2_ fun b_ => ?_ | refine Nat1.mk fun q_ hq_ => ?_ | refine em_ fun x_ hx_ => ?_ | refine Elem1.mk fun e_ he_ => ?_); refine g1_ ?_))
          refine (hco).use ?_; (refine g0_ ?_; repeat ((first | refine n1_ fun b_ => ?_ | refine n2_ fun b_ => ?_ | refine Nat1.mk fun q_ hq_ => ?_ | refine em_ fun x_ hx_ => ?_ | refine Elem1.mk fun e_ he_ => ?_); refine g0_ ?_))
          exact .refl _
  · have e1 : seekE ls c what = (noCopying, checkC ls c) := by rw [seekE, if_pos h]
    rw [e1] at hse
    dsimp only at hse
    refine Pure.of (acalls_of_vc (drawOk W) Tryd.func5 rfl (by decide) (by decide) rfl ?_)
    (refine g0_ ?_; repeat ((first | refine n1_ fun b_ => ?_ | refine n2_ fun b_ => ?_ | refine Nat1.mk fun q_ hq_ => ?_ | refine em_ fun x_ hx_ => ?_ | refine Elem1.mk fun e_ he_ => ?_); refine g0_ ?_))
    refine (hse).use ?_; (refine g0_ ?_; repeat ((first | refine n1_ fun b_ => ?_ | refine n2_ fun b_ => ?_ | refine Nat1.mk fun q_ hq_ => ?_ | refine em_ fun x_ hx_ => ?_ | refine Elem1.mk fun e_ he_ => ?_); refine g0_ ?_))
    refine (hco).use ?_; (refine g0_ ?_; repeat ((first | refine n1_ fun b_ => ?_ | refine n2_ fun b_ => ?_ | refine Nat1.mk fun q_ hq_ => ?_ | refine em_ fun x_ hx_ => ?_ | refine Elem1.mk fun e_ he_ => ?_); refine g0_ ?_))
    (refine g1_ ?_; repeat ((first | refine n1_ fun b_ => ?_ | refine n2_ fun b_ => ?_ | refine Nat1.mk fun q_ hq_ => ?_ | refine em_ fun x_ hx_ => ?_ | refine Elem1.mk fun e_ he_ => ?_); refine g1_ ?_))
    refine (hco).use ?_; (refine g0_ ?_; repeat ((first | refine n1_ fun b_ => ?_ | refine n2_ fun b_ => ?_ | refine Nat1.mk fun q_ hq_ => ?_ | refine em_ fun x_ hx_ => ?_ | refine Elem1.mk fun e_ he_ => ?_); refine g0_ ?_))
    exact .refl _
end Go.Eng.YtdepccblnhkmkaaDoor
end
