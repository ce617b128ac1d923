/- Texts put together: Copy12, Copy13, Copy14. -/
import Derived.Test.YtdepccblnhkmkaaDoorMP4
import Derived.Test.YtdepccblnhkmkaaDoorMT1
/- The law CopySeek. -/
section
namespace Go.Eng.YtdepccblnhkmkaaDoor
open Go Go.Eng Go.Proofs
variable (W : World)
set_option linter.unusedSimpArgs false
set_option maxRecDepth 100000
set_option linter.unusedVariables false
set_option maxHeartbeats 8000000
/-! ### Texts that begin with others -/
def encRs : List Nat → List UInt8
  | [] => []
  | r :: l => Lib.encodeRune r ++ encRs l
theorem runes_encRs : ∀ (l : List Nat) (t : List UInt8), (∀ r ∈ l, validR (r : Int)) → (runes (encRs l ++ t)).map Prod.fst = l ++ (runes t).map Prod.fst
  | [], t, _ => rfl
  | r :: l, t, h => by
    have ih := runes_encRs l t fun q hq => h q (List.mem_cons_of_mem _ hq)
    rw [encRs, List.append_assoc, runes_enc r (h r List.mem_cons_self), List.map_cons, ih]; rfl
theorem encRs_append : ∀ (a b : List Nat), encRs (a ++ b) = encRs a ++ encRs b
  | [], b => rfl
  | r :: a, b => by rw [List.cons_append, encRs, encRs_append a b, encRs, List.append_assoc]
theorem hasPrefix_iff (s p : List UInt8) : Lib.hasPrefix s p = true ↔ ∃ t, s = p ++ t := by
  rw [← Lib.hasPrefix_of_take]
  simp only [Bool.and_eq_true, decide_eq_true_eq, beq_iff_eq]
  constructor
  · rintro ⟨h1, h2⟩
    exact ⟨s.drop p.length, by have := List.take_append_drop p.length s; rw [h2] at this; exact this.symm⟩
  · rintro ⟨t, rfl⟩
    simp
theorem prefix_iff (w l : List Nat) : w.isPrefixOf l = true ↔ ∃ t, l = w ++ t := by
  rw [List.isPrefixOf_iff_prefix]
  exact ⟨fun ⟨t, h⟩ => ⟨t, h.symm⟩, fun ⟨t, h⟩ => ⟨t, h.symm⟩⟩
theorem prefix_enc (a b : List Nat) (ha : ∀ r ∈ a, validR (r : Int)) (hb : ∀ r ∈ b, validR (r : Int)) : Lib.hasPrefix (encRs a) (encRs b) = b.isPrefixOf a := by
  rw [Bool.eq_iff_iff, hasPrefix_iff, prefix_iff]
  constructor
  · rintro ⟨t, h⟩
    have h1 := runes_encRs a [] ha
    rw [List.append_nil, h, runes_encRs b t hb, runes_nil, List.map_nil, List.append_nil] at h1
    exact ⟨_, h1.symm⟩
  · rintro ⟨t, rfl⟩
    exact ⟨encRs t, encRs_append b t⟩
theorem cleanRs_enc : ∀ l : List (Nat × Nat), cleanRs l = encRs ((l.filter fun p => decide (0 < widthL p.1)).map Prod.fst)
  | [] => rfl
  | p :: l => by
    rw [cleanRs, List.filter_cons]
    split
    · rename_i h
      rw [if_pos (by simpa using h), List.map_cons, encRs, cleanRs_enc l]
    · rename_i h
      rw [if_neg (by simpa using h), cleanRs_enc l]
theorem spotsRs_fst : ∀ (l : List (Nat × Nat)) (x : Nat), (spotsRs x l).map Prod.fst = (l.filter fun p => decide (0 < widthL p.1)).map Prod.fst
  | [], _ => rfl
  | p :: l, x => by
    rw [spotsRs, List.filter_cons]
    split
    · rename_i h
      rw [if_pos (by simpa using h), List.map_cons, List.map_cons, spotsRs_fst l]
    · rename_i h
      rw [if_neg (by simpa using h), spotsRs_fst l]
theorem clean_spots (s : List UInt8) : cleanL s = encRs ((spotsL s).map Prod.fst) := by
  rw [cleanL, cleanRs_enc, spotsL, spotsRs_fst]
theorem spots_valid (s : List UInt8) : ∀ r ∈ (spotsL s).map Prod.fst, validR (r : Int) := fun r hr => by
  obtain ⟨p, hp, rfl⟩ := List.mem_map.1 hr
  exact valid_of_width (spotsRs_pos _ _ p hp)
theorem wantL_spots (s : List UInt8) : wantL s = (spotsL s).map Prod.fst := by
  have h := runes_encRs ((spotsL s).map Prod.fst) [] (spots_valid s)
  rw [List.append_nil, runes_nil, List.map_nil, List.append_nil, ← clean_spots] at h
  exact h
theorem clean_want (s : List UInt8) : cleanL s = encRs (wantL s) := by rw [wantL_spots]; exact clean_spots s
theorem clean_nil (s : List UInt8) : cleanL s = [] ↔ wantL s = [] := by
  constructor
  · intro h; rw [wantL, h, runes_nil]; rfl
  · intro h; rw [clean_want, h]; rfl
/-- A text stands where the clean text from there on begins with it. -/
theorem stands_iff (s what : List UInt8) (k : Nat) : Lib.hasPrefix (encRs (((spotsL s).map Prod.fst).drop k)) (cleanL what) = standsL ((spotsL s).drop k) (wantL what) := by
  rw [clean_want, prefix_enc _ _ (fun r hr => spots_valid s r (List.mem_of_mem_drop hr)) (fun r hr => by rw [wantL_spots] at hr; exact spots_valid what r hr), standsL, List.map_drop]
theorem runesBytes_enc (l : List Nat) : (runesBytes (l.map fun r : Nat => (r : Int))).data.toList = encRs l := by
  have key : ∀ (l : List Nat) (acc : ByteArray), ((l.map fun r : Nat => (r : Int)).foldl (fun r n => r ++ Utf8.encode n) acc).data.toList = acc.data.toList ++ encRs l := by
    intro l
    induction l with
    | nil => intro acc; simp [encRs]
    | cons n l ih =>
      intro acc
      rw [List.map_cons, List.foldl_cons, ih, encRs, ← enc_utf8]
      simp [ByteArray.data_append]
  have := key l ByteArray.empty
  rw [runesBytes, this]
  rfl
end Go.Eng.YtdepccblnhkmkaaDoor
end

/- The law CopySeek: where a text is found, by the document's way: plain. -/
section
namespace Go.Eng.YtdepccblnhkmkaaDoor
open Go Go.Eng Go.Proofs
set_option linter.unusedSimpArgs false
set_option maxRecDepth 100000
set_option linter.unusedVariables false
set_option maxHeartbeats 8000000
/-- All places of a line at which it stands. -/
def hitsIn (w : List Nat) (y : Int) : List (Nat × Nat) → List Mark
  | [] => []
  | q :: l => (if standsL (q :: l) w = true then [⟨q.2, y⟩] else []) ++ hitsIn w y l
def hitsAt (ls : List (List UInt8)) (w : List Nat) (y : Nat) : List Mark := hitsIn w y (spotsL (ls.getD y []))
def hitsL (ls : List (List UInt8)) (w : List Nat) (y n : Nat) : List Mark := (List.range' y n).flatMap (hitsAt ls w)
theorem hitsL_succ (ls : List (List UInt8)) (w : List Nat) (y n : Nat) : hitsL ls w y (n + 1) = hitsAt ls w y ++ hitsL ls w (y + 1) n := by
  rw [hitsL, List.range'_succ, List.flatMap_cons]; rfl
def behM (X : Int) (Y : Int) (m : Mark) : Bool := decide (Y < m.y ∨ (m.y = Y ∧ X < m.x))
theorem hitsIn_y (w : List Nat) (y : Int) : ∀ (l : List (Nat × Nat)), ∀ m ∈ hitsIn w y l, m.y = y ∧ ∃ n : Nat, m.x = n
  | [], m, h => by simp [hitsIn] at h
  | q :: l, m, h => by
    rw [hitsIn, List.mem_append] at h
    rcases h with h | h
    · split at h
      · simp only [List.mem_singleton] at h
        subst h; exact ⟨rfl, q.2, rfl⟩
      · simp at h
    · exact hitsIn_y w y l m h
theorem findF_hits (w : List Nat) (y : Int) (p : Nat → Bool) : ∀ (l : List (Nat × Nat)), (findF w p l).map (fun x : Nat => (⟨x, y⟩ : Mark)) = (hitsIn w y l).find? (fun m => p m.x.toNat)
  | [] => rfl
  | q :: l => by
    have ih := findF_hits w y p l
    rw [findF, hitsIn]
    by_cases hs : standsL (q :: l) w = true
    · rw [if_pos hs, List.singleton_append, List.find?_cons]
      by_cases hp : p q.2 = true
      · rw [if_pos ⟨hp, hs⟩]
        simp [hp]
      · rw [if_neg (fun h => hp h.1), ih]
        simp [hp]
    · rw [if_neg hs, if_neg (fun h => hs h.2), List.nil_append, ih]
theorem fs_shift {α : Type} (F G : Nat → Option α) : ∀ (k a b : Nat), (∀ i, i < k → F (a + i) = G (b + i)) → (List.range' a k).findSome? F = (List.range' b k).findSome? G
  | 0, _, _, _ => rfl
  | k + 1, a, b, h => by
    have h0 : F a = G b := h 0 (by omega)
    rw [List.range'_succ, List.range'_succ, List.findSome?_cons, List.findSome?_cons, h0, fs_shift F G k (a + 1) (b + 1) (fun i hi => by
      have := h (i + 1) (by omega)
      rwa [show a + (i + 1) = a + 1 + i by omega, show b + (i + 1) = b + 1 + i by omega] at this)]
theorem fs_none {α : Type} (F : Nat → Option α) : ∀ (k a : Nat), (∀ i, i < k → F (a + i) = none) → (List.range' a k).findSome? F = none
  | 0, _, _ => rfl
  | k + 1, a, h => by
    have h0 : F a = none := h 0 (by omega)
    rw [List.range'_succ, List.findSome?_cons, h0, fs_none F k (a + 1) (fun i hi => by
      have := h (i + 1) (by omega)
      rwa [show a + (i + 1) = a + 1 + i by omega] at this)]
theorem find_head {p q : Mark → Bool} {l : List Mark} (h : l.find? p = none) (hq : ∀ m ∈ l, p m = false → q m = true) : l.find? q = l.head? := by
  cases l with
  | nil => rfl
  | cons m l =>
    rw [List.find?_eq_none] at h
    have := hq m List.mem_cons_self (by simpa using h m List.mem_cons_self)
    simp [this]
theorem find_all {q : Mark → Bool} {l : List Mark} (hq : ∀ m ∈ l, q m = true) : l.find? q = l.head? := by
  cases l with
  | nil => rfl
  | cons m l => simp [hq m List.mem_cons_self]
theorem find_no {q : Mark → Bool} {l : List Mark} (hq : ∀ m ∈ l, q m = false) : l.find? q = none := by
  rw [List.find?_eq_none]
  intro m hm
  simp [hq m hm]
theorem find_congr {p q : Mark → Bool} : ∀ {l : List Mark}, (∀ m ∈ l, p m = q m) → l.find? p = l.find? q
  | [], _ => rfl
  | m :: l, h => by
    rw [List.find?_cons, List.find?_cons, h m List.mem_cons_self, find_congr fun n hn => h n (List.mem_cons_of_mem _ hn)]
def minM (m : Mark) : Mark := ⟨min m.x 120, m.y⟩
theorem seek_law (ls : List (List UInt8)) (w : List Nat) (X : Int) (Y : Nat) (hY : Y < ls.length) :
    seekM ls w ⟨X, Y⟩ = (((hitsL ls w 0 ls.length).find? (behM X Y)).or (hitsL ls w 0 ls.length).head?).map minM := by
  generalize hL : ls.length = L at hY
  -- each step
  have hF : ∀ n, stepS ls w ⟨X, Y⟩ n = ((hitsAt ls w ((Y + n) % L)).find? (fun m => askB L X n m.x.toNat)).map minM := fun n => by
    rw [stepS, hL]
    dsimp only
    rw [Int.toNat_natCast, hitsAt, ← findF_hits, Option.map_map]; rfl
  have hx : ∀ y, ∀ m ∈ hitsAt ls w y, m.y = y ∧ ∃ n : Nat, m.x = n := fun y m hm => hitsIn_y w y _ m hm
  have e1 : List.range' 0 (L + 1) = List.range' 0 1 ++ (List.range' 1 (L - 1 - Y) ++ (List.range' (L - Y) Y ++ List.range' L 1)) := by
    have h1 := List.range'_append_1 (s := L - Y) (m := Y) (n := 1)
    rw [show L - Y + Y = L by omega] at h1
    have h2 := List.range'_append_1 (s := 1) (m := L - 1 - Y) (n := Y + 1)
    rw [show 1 + (L - 1 - Y) = L - Y by omega] at h2
    have h3 := List.range'_append_1 (s := 0) (m := 1) (n := L - 1 - Y + (Y + 1))
    rw [show 0 + 1 = 1 from rfl, show 1 + (L - 1 - Y + (Y + 1)) = L + 1 by omega] at h3
    rw [h1, h2, h3]
  have e2 : List.range' 0 L = List.range' 0 Y ++ (List.range' Y 1 ++ List.range' (Y + 1) (L - 1 - Y)) := by
    have h1 := List.range'_append_1 (s := Y) (m := 1) (n := L - 1 - Y)
    have h2 := List.range'_append_1 (s := 0) (m := Y) (n := 1 + (L - 1 - Y))
    rw [Nat.zero_add, show Y + (1 + (L - 1 - Y)) = L by omega] at h2
    rw [h1, h2]
  have one : ∀ {α : Type} (F : Nat → Option α) (a : Nat), (List.range' a 1).findSome? F = F a := fun F a => by
    rw [List.range'_succ, List.findSome?_cons]
    cases F a <;> rfl
  -- the four parts
  have p0 : stepS ls w ⟨X, Y⟩ 0 = ((hitsAt ls w Y).find? (behM X Y)).map minM := by
    rw [hF, Nat.add_zero, Nat.mod_eq_of_lt hY]
    congr 1
    refine find_congr fun m hm => ?_
    obtain ⟨h1, n, h2⟩ := hx Y m hm
    simp only [askB, behM, h1, h2, Int.toNat_natCast]
    rw [Bool.eq_iff_iff]
    simp
    omega
  have p1 : (List.range' 1 (L - 1 - Y)).findSome? (stepS ls w ⟨X, Y⟩) = (List.range' (Y + 1) (L - 1 - Y)).findSome? (fun y => ((hitsAt ls w y).head?).map minM) :=
    fs_shift _ _ _ _ _ fun i hi => by
      rw [hF, show Y + (1 + i) = Y + 1 + i by omega, Nat.mod_eq_of_lt (by omega)]
      congr 1
      refine find_all fun m hm => ?_
      simp only [askB]
      simp
      omega
  have p2 : (List.range' (L - Y) Y).findSome? (stepS ls w ⟨X, Y⟩) = (List.range' 0 Y).findSome? (fun y => ((hitsAt ls w y).head?).map minM) :=
    fs_shift _ _ _ _ _ fun i hi => by
      rw [hF, show Y + (L - Y + i) = i + L by omega, Nat.add_mod_right, Nat.mod_eq_of_lt (by omega), Nat.zero_add]
      congr 1
      refine find_all fun m hm => ?_
      simp only [askB]
      simp
      omega
  have p3 : stepS ls w ⟨X, Y⟩ L = ((hitsAt ls w Y).find? (fun m => decide (m.x ≤ X))).map minM := by
    rw [hF, Nat.add_mod_right, Nat.mod_eq_of_lt hY]
    congr 1
    refine find_congr fun m hm => ?_
    obtain ⟨h1, n, h2⟩ := hx Y m hm
    simp only [askB, h2, Int.toNat_natCast]
    rw [Bool.eq_iff_iff]
    simp
    omega
  -- what the document finds
  have q1 : (hitsL ls w 0 L).find? (behM X Y) = ((hitsAt ls w Y).find? (behM X Y)).or ((List.range' (Y + 1) (L - 1 - Y)).findSome? (fun y => (hitsAt ls w y).head?)) := by
    rw [hitsL, List.find?_flatMap, e2, List.findSome?_append, List.findSome?_append, one, fs_none _ _ _ (fun i hi => find_no fun m hm => by
      obtain ⟨h1, n, h2⟩ := hx _ m hm
      simp only [behM, h1]
      simp
      omega), Option.none_or]
    congr 1
    refine fs_shift _ _ _ _ _ fun i hi => find_all fun m hm => ?_
    obtain ⟨h1, n, h2⟩ := hx _ m hm
    simp only [behM, h1]
    simp
    omega
  have q2 : (hitsL ls w 0 L).head? = ((List.range' 0 Y).findSome? (fun y => (hitsAt ls w y).head?)).or (((hitsAt ls w Y).head?).or ((List.range' (Y + 1) (L - 1 - Y)).findSome? (fun y => (hitsAt ls w y).head?))) := by
    rw [hitsL, List.head?_flatMap, e2, List.findSome?_append, List.findSome?_append, one]
  have mapfs : ∀ (l : List Nat), l.findSome? (fun y => ((hitsAt ls w y).head?).map minM) = (l.findSome? (fun y => (hitsAt ls w y).head?)).map minM := fun l => by
    induction l with
    | nil => rfl
    | cons a l ih =>
      rw [List.findSome?_cons, List.findSome?_cons, ih]
      cases (hitsAt ls w a).head? <;> rfl
  have hrel : (hitsAt ls w Y).find? (behM X Y) = none → (hitsAt ls w Y).find? (fun m => decide (m.x ≤ X)) = (hitsAt ls w Y).head? := fun h => find_head h fun m hm hb => by
    obtain ⟨h1, n, h2⟩ := hx _ m hm
    simp only [behM, h1] at hb
    simp at hb ⊢
    omega
  rw [seekM, hL, e1, List.findSome?_append, List.findSome?_append, List.findSome?_append, one, one, p0, p1, p2, p3, q1, q2, mapfs, mapfs]
  generalize (hitsAt ls w Y).find? (behM X Y) = P at *
  generalize (hitsAt ls w Y).find? (fun m => decide (m.x ≤ X)) = Q at *
  generalize (List.range' (Y + 1) (L - 1 - Y)).findSome? (fun y => (hitsAt ls w y).head?) = B at *
  generalize (List.range' 0 Y).findSome? (fun y => (hitsAt ls w y).head?) = A at *
  generalize (hitsAt ls w Y).head? = H at *
  cases P with
  | some _ => rfl
  | none =>
    rw [hrel rfl]
    cases B <;> cases A <;> cases H <;> rfl
end Go.Eng.YtdepccblnhkmkaaDoor
end

/- The law CopySeek. -/
section
namespace Go.Eng
open Go
variable {P : Program} {W : World}
/-- Two slots' rows are written no more. -/
theorem freeze2_ {ops : Array Oper} {Q : Env → Mem → Prop} {env : Env} {σ : Mem} (t1 t2 : Nat) (v1 v2 : PV) (τ ρ : Mem) (hp : σ.Perm (τ ++ ρ)) (hv1 : Frz ρ (env t1) v1) (hv2 : Frz ρ (env t2) v2) (h : DD P W ops Q (upd (upd env t1 v1) t2 v2) τ) : DG P W ops Q env σ :=
  .frz ⟨_, τ, ρ, hp, fun t' => by
    unfold upd
    by_cases e2 : t' = t2
    · subst e2; simp; exact hv2
    · have : Nat.beq t' t2 = false := by rw [Bool.eq_false_iff]; intro h; exact e2 (Nat.eq_of_beq_eq_true h)
      by_cases e : t' = t1
      · subst e; simp [this]; exact hv1
      · have h1 : Nat.beq t' t1 = false := by rw [Bool.eq_false_iff]; intro h; exact e (Nat.eq_of_beq_eq_true h)
        simp [this, h1]
        exact .refl _, .old h⟩
end Go.Eng
namespace Go.Eng.YtdepccblnhkmkaaDoor
open Go Go.Eng Go.Proofs
variable (W : World)
set_option linter.unusedSimpArgs false
set_option maxRecDepth 100000
set_option linter.unusedVariables false
set_option maxHeartbeats 8000000
theorem eql_ipnil {t e : TypeId} {x : PV} {f : Nat} {xo yo : Operand} (ht : Tryd.prog.underlying t = some (.pointer e)) : EqLaw Tryd.prog .eql t xo yo (.ip x f) (.lit (.pointer none)) false := by
  refine ⟨fun K w u v h1 h2 => ?_⟩
  cases h1
  cases h2
  rename_i b o vs hk hv
  have hp : Tryd.prog.pointee t = e := by simp [Program.pointee, ht]
  have := run_eql_pointer_nil (P := Tryd.prog) w t (some ⟨b, o + f, none⟩) (by rw [hp]; exact ht)
  have e0 : (eqGuard .eql t xo yo (.pointer (some ⟨b, o + f, none⟩)) (.pointer none)).run Tryd.prog w = .ok () w := by simp [eqGuard]
  rw [Sem.run_bind, e0, Result.andThen_ok, this]; rfl
def ptrV : Option Mark → PV
  | none => .lit (.pointer none)
  | some m => .ip (.agg [.int .i64 m.x, .int .i64 m.y]) 0
theorem seekE_ok {ls : List (List UInt8)} {c : Copying} {what : List UInt8} (h : checkC ls c = 0) (hc : c.ok) : (seekE ls c what).1.ok := by
  obtain ⟨g1, g2, g3, g4⟩ := check_zero h
  obtain ⟨⟨X, cy⟩, fr, on⟩ := c
  dsimp only at g3
  obtain ⟨Y, rfl⟩ := Int.eq_ofNat_of_zero_le g3.1
  unfold seekE
  split
  · exact (by decide : noCopying.ok)
  · split
    · exact (by decide : noCopying.ok)
    · dsimp only
      rw [seek_law ls _ X Y (by omega)]
      split
      · rename_i m hm
        refine ⟨?_, hc.2⟩
        dsimp only
        obtain ⟨m', hm', rfl⟩ := Option.map_eq_some_iff.1 hm
        have hin : m' ∈ hitsL ls (wantL what) 0 ls.length := by
          rcases Option.or_eq_some_iff.1 hm' with h1 | ⟨_, h1⟩
          · exact List.mem_of_find?_eq_some h1
          · exact List.mem_of_head? h1
        obtain ⟨y, hy, hm2⟩ := List.mem_flatMap.1 hin
        obtain ⟨h3, n, h4⟩ := hitsIn_y _ _ _ m' hm2
        simp only [List.mem_range'_1] at hy
        unfold Mark.ok minM i64ok
        dsimp only
        omega
      · exact (by decide : noCopying.ok)
theorem copySeek_ok (hT : Tabs W) (ls : List (List UInt8)) (hk : ∀ s ∈ ls, True) (hf : ls.length * 16 ≤ 140737488351232 ∧ ∀ s ∈ ls, s.length ≤ 140737488351232) (c : Copying) (hc : c.ok) (what : List UInt8) (hw : what.length ≤ 1048576) :
    Pure Tryd.prog W 4 [encLines ls, encCopying c, .str what] (.bool true) := by
  have hl : ls.length ≤ 17592186044416 := by omega
  have hb : ∀ s ∈ ls, s.length ≤ 140737488355328 := fun s hs => by have := hf.2 s hs; omega
  have hck := badCopy_ok W ls c hl hb
  have hse := seek_ok W hT ls c what hl hb hw
  have hcl := cleanOf_ok W what hw
  have hco := copied_ok W hT
  have hlm : (ls.map PV.str).length = ls.length := List.length_map _
  have hcn := clean_nil what
  by_cases h : checkC ls c = 0
  · obtain ⟨g1, g2, g3, g4⟩ := check_zero h
    have hso := seekE_ok (what := what) h hc
    by_cases hx : wantL what = [] ∨ 4000 < what.length
    · have e1 : seekE ls c what = (noCopying, 1) := by rw [seekE, if_neg (by simpa using h), if_pos hx]
      rw [e1] at hse
      dsimp only at hse
      rw [h] at hck
      have hdo : cleanL what = [] ∨ (¬ cleanL what = [] ∧ 4000 < what.length) := by
        by_cases h0 : wantL what = []
        · exact .inl (hcn.2 h0)
        · exact .inr ⟨fun h => h0 (hcn.1 h), hx.resolve_left h0⟩
      rcases hdo with h0 | ⟨h0, h00⟩
      · rw [h0] at hcl
        refine Pure.of (acalls_of_vc (DG_ok (by decide)) Tryd.func4 rfl (by decide) (by decide) rfl ?_)
        (refine g0_ ?_; repeat ((first | refine n1_ fun b_ => ?_ | refine n2_ fun b_ => ?_ | refine Nat1.mk fun q_ hq_ => ?_ | refine em_ fun x_ hx_ => ?_ | refine Elem1.mk fun e_ he_ => ?_); refine g0_ ?_))
        refine (hse).use ?_; (refine g0_ ?_; repeat ((first | refine n1_ fun b_ => ?_ | refine n2_ fun b_ => ?_ | refine Nat1.mk fun q_ hq_ => ?_ | refine em_ fun x_ hx_ => ?_ | refine Elem1.mk fun e_ he_ => ?_); refine g0_ ?_))
        refine (hck).use ?_; (refine g0_ ?_; repeat ((first | refine n1_ fun b_ => ?_ | refine n2_ fun b_ => ?_ | refine Nat1.mk fun q_ hq_ => ?_ | refine em_ fun x_ hx_ => ?_ | refine Elem1.mk fun e_ he_ => ?_); refine g0_ ?_))
        refine (hcl).use ?_; (refine g0_ ?_; repeat ((first | refine n1_ fun b_ => ?_ | refine n2_ fun b_ => ?_ | refine Nat1.mk fun q_ hq_ => ?_ | refine em_ fun x_ hx_ => ?_ | refine Elem1.mk fun e_ he_ => ?_); refine g0_ ?_))
        (refine g1_ ?_; repeat ((first | refine n1_ fun b_ => ?_ | refine n2_ fun b_ => ?_ | refine Nat1.mk fun q_ hq_ => ?_ | refine em_ fun x_ hx_ => ?_ | refine Elem1.mk fun e_ he_ => ?_); refine g1_ ?_))
        refine (hco).use ?_; (refine g0_ ?_; repeat ((first | refine n1_ fun b_ => ?_ | refine n2_ fun b_ => ?_ | refine Nat1.mk fun q_ hq_ => ?_ | refine em_ fun x_ hx_ => ?_ | refine Elem1.mk fun e_ he_ => ?_); refine g0_ ?_))
        (refine g1_ ?_; repeat ((first | refine n1_ fun b_ => ?_ | refine n2_ fun b_ => ?_ | refine Nat1.mk fun q_ hq_ => ?_ | refine em_ fun x_ hx_ => ?_ | refine Elem1.mk fun e_ he_ => ?_); refine g1_ ?_))
        refine (hco).use ?_; (refine g0_ ?_; repeat ((first | refine n1_ fun b_ => ?_ | refine n2_ fun b_ => ?_ | refine Nat1.mk fun q_ hq_ => ?_ | refine em_ fun x_ hx_ => ?_ | refine Elem1.mk fun e_ he_ => ?_); refine g0_ ?_))
        (refine g1_ ?_; repeat ((first | refine n1_ fun b_ => ?_ | refine n2_ fun b_ => ?_ | refine Nat1.mk fun q_ hq_ => ?_ | refine em_ fun x_ hx_ => ?_ | refine Elem1.mk fun e_ he_ => ?_); refine g1_ ?_))
        refine ⟨_, eq_copying noCopying noCopying (by decide) (by decide) _ _, ?_⟩
        (refine g1_ ?_; repeat ((first | refine n1_ fun b_ => ?_ | refine n2_ fun b_ => ?_ | refine Nat1.mk fun q_ hq_ => ?_ | refine em_ fun x_ hx_ => ?_ | refine Elem1.mk fun e_ he_ => ?_); refine g1_ ?_))
        exact Frz.of_eq (by simp)
      · refine Pure.of (acalls_of_vc (DG_ok (by decide)) Tryd.func4 rfl (by decide) (by decide) rfl ?_)
        (refine g0_ ?_; repeat ((first | refine n1_ fun b_ => ?_ | refine n2_ fun b_ => ?_ | refine Nat1.mk fun q_ hq_ => ?_ | refine em_ fun x_ hx_ => ?_ | refine Elem1.mk fun e_ he_ => ?_); refine g0_ ?_))
        refine (hse).use ?_; (refine g0_ ?_; repeat ((first | refine n1_ fun b_ => ?_ | refine n2_ fun b_ => ?_ | refine Nat1.mk fun q_ hq_ => ?_ | refine em_ fun x_ hx_ => ?_ | refine Elem1.mk fun e_ he_ => ?_); refine g0_ ?_))
        refine (hck).use ?_; (refine g0_ ?_; repeat ((first | refine n1_ fun b_ => ?_ | refine n2_ fun b_ => ?_ | refine Nat1.mk fun q_ hq_ => ?_ | refine em_ fun x_ hx_ => ?_ | refine Elem1.mk fun e_ he_ => ?_); refine g0_ ?_))
        refine (hcl).use ?_; (refine g0_ ?_; repeat ((first | refine n1_ fun b_ => ?_ | refine n2_ fun b_ => ?_ | refine Nat1.mk fun q_ hq_ => ?_ | refine em_ fun x_ hx_ => ?_ | refine Elem1.mk fun e_ he_ => ?_); refine g0_ ?_))
        (refine g1_ ?_; repeat ((first | refine n1_ fun b_ => ?_ | refine n2_ fun b_ => ?_ | refine Nat1.mk fun q_ hq_ => ?_ | refine em_ fun x_ hx_ => ?_ | refine Elem1.mk fun e_ he_ => ?_); refine g1_ ?_))
        refine (hco).use ?_; (refine g0_ ?_; repeat ((first | refine n1_ fun b_ => ?_ | refine n2_ fun b_ => ?_ | refine Nat1.mk fun q_ hq_ => ?_ | refine em_ fun x_ hx_ => ?_ | refine Elem1.mk fun e_ he_ => ?_); refine g0_ ?_))
        (refine g1_ ?_; repeat ((first | refine n1_ fun b_ => ?_ | refine n2_ fun b_ => ?_ | refine Nat1.mk fun q_ hq_ => ?_ | refine em_ fun x_ hx_ => ?_ | refine Elem1.mk fun e_ he_ => ?_); refine g1_ ?_))
        refine (hco).use ?_; (refine g0_ ?_; repeat ((first | refine n1_ fun b_ => ?_ | refine n2_ fun b_ => ?_ | refine Nat1.mk fun q_ hq_ => ?_ | refine em_ fun x_ hx_ => ?_ | refine Elem1.mk fun e_ he_ => ?_); refine g0_ ?_))
        (refine g1_ ?_; repeat ((first | refine n1_ fun b_ => ?_ | refine n2_ fun b_ => ?_ | refine Nat1.mk fun q_ hq_ => ?_ | refine em_ fun x_ hx_ => ?_ | refine Elem1.mk fun e_ he_ => ?_); refine g1_ ?_))
        refine ⟨_, eq_copying noCopying noCopying (by decide) (by decide) _ _, ?_⟩
        (refine g1_ ?_; repeat ((first | refine n1_ fun b_ => ?_ | refine n2_ fun b_ => ?_ | refine Nat1.mk fun q_ hq_ => ?_ | refine em_ fun x_ hx_ => ?_ | refine Elem1.mk fun e_ he_ => ?_); refine g1_ ?_))
        exact Frz.of_eq (by simp)
    · have h0 : ¬ cleanL what = [] := fun h => hx (.inl (hcn.1 h))
      have h00 : ¬ 4000 < what.length := fun h => hx (.inr h)
      rw [h] at hck
      obtain ⟨⟨xc, xe⟩, hX⟩ : ∃ X, seekE ls c what = X := ⟨_, rfl⟩
      rw [hX] at hse hso
      dsimp only at hse hso
      rw [seekE, if_neg (by simpa using h), if_neg hx] at hX
      obtain ⟨⟨X, cy⟩, fr, on⟩ := c
      dsimp only at g3 hX
      obtain ⟨Y, rfl⟩ := Int.eq_ofNat_of_zero_le g3.1
      rw [seek_law ls (wantL what) X Y (by omega)] at hX
      refine Pure.of (acalls_of_vc (DG_ok (by decide)) Tryd.func4 rfl (by decide) (by decide) rfl ?_)
      (refine g0_ ?_; repeat ((first | refine n1_ fun b_ => ?_ | refine n2_ fun b_ => ?_ | refine Nat1.mk fun q_ hq_ => ?_ | refine em_ fun x_ hx_ => ?_ | refine Elem1.mk fun e_ he_ => ?_); refine g0_ ?_))
      refine (hse).use ?_; (refine g0_ ?_; repeat ((first | refine n1_ fun b_ => ?_ | refine n2_ fun b_ => ?_ | refine Nat1.mk fun q_ hq_ => ?_ | refine em_ fun x_ hx_ => ?_ | refine Elem1.mk fun e_ he_ => ?_); refine g0_ ?_))
      refine (hck).use ?_; (refine g0_ ?_; repeat ((first | refine n1_ fun b_ => ?_ | refine n2_ fun b_ => ?_ | refine Nat1.mk fun q_ hq_ => ?_ | refine em_ fun x_ hx_ => ?_ | refine Elem1.mk fun e_ he_ => ?_); refine g0_ ?_))
      refine (hcl).use ?_; (refine g0_ ?_; repeat ((first | refine n1_ fun b_ => ?_ | refine n2_ fun b_ => ?_ | refine Nat1.mk fun q_ hq_ => ?_ | refine em_ fun x_ hx_ => ?_ | refine Elem1.mk fun e_ he_ => ?_); refine g0_ ?_))
      refine brec ?_; intro c_ h5; (try rw [h5]); cases c_ <;> replace h5 := nm_ h5
      rotate_left
      · rcases h5 with h5 | h5
        · exact absurd h5 h0
        · omega
      (refine g1_ ?_; repeat ((first | refine n1_ fun b_ => ?_ | refine n2_ fun b_ => ?_ | refine Nat1.mk fun q_ hq_ => ?_ | refine em_ fun x_ hx_ => ?_ | refine Elem1.mk fun e_ he_ => ?_); refine g1_ ?_))
      refine (hco).use ?_; (refine g0_ ?_; repeat ((first | refine n1_ fun b_ => ?_ | refine n2_ fun b_ => ?_ | refine Nat1.mk fun q_ hq_ => ?_ | refine em_ fun x_ hx_ => ?_ | refine Elem1.mk fun e_ he_ => ?_); refine g0_ ?_))
      (refine g1_ ?_; repeat ((first | refine n1_ fun b_ => ?_ | refine n2_ fun b_ => ?_ | refine Nat1.mk fun q_ hq_ => ?_ | refine em_ fun x_ hx_ => ?_ | refine Elem1.mk fun e_ he_ => ?_); refine g1_ ?_))
      rename_i b4
      obtain ⟨bX, rfl⟩ : ∃ bX, bX = b_ := ⟨_, rfl⟩
      refine' loopI (α := Nat × (List Mark) × (Option Mark) × (Option Mark)) (fun (y, H, B, F) => [(61, .int .i64 y), (11, ptrV B), (12, ptrV F)]) [(4, _), (7, _), (8, _), (10, _), (59, _), (60, _)] (fun (y, H, B, F) => [⟨bX, .row 5 [encCopying xc] 0⟩, ⟨b4, .row 5 [.agg [.int .i64 X, .int .i64 Y, .int .i64 fr.x, .int .i64 fr.y, .bool on]] 0⟩]) (fun (y, H, B, F) => y ≤ ls.length ∧ H ++ hitsL ls (wantL what) y (ls.length - y) = hitsL ls (wantL what) 0 ls.length ∧ B = H.find? (behM X Y) ∧ F = H.head?) (fun (y, H, B, F) => ls.length - y) (0, [], none, none) ?_ ?_
      · exact ⟨Nat.zero_le _, rfl, rfl, rfl⟩
      rintro ⟨y, H, B, F⟩ ⟨hy, hH, hB, hF⟩
      (refine g0_ ?_; repeat ((first | refine n1_ fun b_ => ?_ | refine n2_ fun b_ => ?_ | refine Nat1.mk fun q_ hq_ => ?_ | refine em_ fun x_ hx_ => ?_ | refine Elem1.mk fun e_ he_ => ?_); refine g0_ ?_))
      refine brec ?_; intro c_ h2; (try rw [h2]); cases c_ <;> replace h2 := nm_ h2
      · rw [hlm] at h2
        obtain rfl : y = ls.length := by omega
        rw [Nat.sub_self, show hitsL ls (wantL what) ls.length 0 = [] from rfl, List.append_nil] at hH
        rw [← hH, ← hB, ← hF] at hX
        clear hB hF
        rcases B with _ | mb
        · rcases F with _ | mf
          · cases hX
            (refine g0_ ?_; repeat ((first | refine n1_ fun b_ => ?_ | refine n2_ fun b_ => ?_ | refine Nat1.mk fun q_ hq_ => ?_ | refine em_ fun x_ hx_ => ?_ | refine Elem1.mk fun e_ he_ => ?_); refine g0_ ?_))
            refine ⟨_, eql_nilptr Tryd.underlying43, ?_⟩
            (refine g0_ ?_; repeat ((first | refine n1_ fun b_ => ?_ | refine n2_ fun b_ => ?_ | refine Nat1.mk fun q_ hq_ => ?_ | refine em_ fun x_ hx_ => ?_ | refine Elem1.mk fun e_ he_ => ?_); refine g0_ ?_))
            refine ⟨_, eql_nilptr Tryd.underlying43, ?_⟩
            (refine g0_ ?_; repeat ((first | refine n1_ fun b_ => ?_ | refine n2_ fun b_ => ?_ | refine Nat1.mk fun q_ hq_ => ?_ | refine em_ fun x_ hx_ => ?_ | refine Elem1.mk fun e_ he_ => ?_); refine g0_ ?_))
            refine ⟨_, eq_copying noCopying noCopying (by decide) (by decide) _ _, ?_⟩
            (refine g1_ ?_; repeat ((first | refine n1_ fun b_ => ?_ | refine n2_ fun b_ => ?_ | refine Nat1.mk fun q_ hq_ => ?_ | refine em_ fun x_ hx_ => ?_ | refine Elem1.mk fun e_ he_ => ?_); refine g1_ ?_))
            exact Frz.of_eq (by simp)
          · cases hX
            (refine g0_ ?_; repeat ((first | refine n1_ fun b_ => ?_ | refine n2_ fun b_ => ?_ | refine Nat1.mk fun q_ hq_ => ?_ | refine em_ fun x_ hx_ => ?_ | refine Elem1.mk fun e_ he_ => ?_); refine g0_ ?_))
            refine ⟨_, eql_nilptr Tryd.underlying43, ?_⟩
            (refine g0_ ?_; repeat ((first | refine n1_ fun b_ => ?_ | refine n2_ fun b_ => ?_ | refine Nat1.mk fun q_ hq_ => ?_ | refine em_ fun x_ hx_ => ?_ | refine Elem1.mk fun e_ he_ => ?_); refine g0_ ?_))
            refine ⟨_, eql_ipnil Tryd.underlying43, ?_⟩
            (refine g0_ ?_; repeat ((first | refine n1_ fun b_ => ?_ | refine n2_ fun b_ => ?_ | refine Nat1.mk fun q_ hq_ => ?_ | refine em_ fun x_ hx_ => ?_ | refine Elem1.mk fun e_ he_ => ?_); refine g0_ ?_))
            refine DrawsZ.old (head_ ?_)
            (refine g0_ ?_; repeat ((first | refine n1_ fun b_ => ?_ | refine n2_ fun b_ => ?_ | refine Nat1.mk fun q_ hq_ => ?_ | refine em_ fun x_ hx_ => ?_ | refine Elem1.mk fun e_ he_ => ?_); refine g0_ ?_))
            rw [show (if (120 : Int) < (mf).x then (120 : Int) else (mf).x) = min (mf).x 120 by split <;> omega]
            (refine g0_ ?_; repeat ((first | refine n1_ fun b_ => ?_ | refine n2_ fun b_ => ?_ | refine Nat1.mk fun q_ hq_ => ?_ | refine em_ fun x_ hx_ => ?_ | refine Elem1.mk fun e_ he_ => ?_); refine g0_ ?_))
            refine ⟨_, eq_copying ⟨⟨min (mf).x 120, (mf).y⟩, fr, on⟩ ⟨⟨min (mf).x 120, (mf).y⟩, fr, on⟩ hso hso _ _, ?_⟩
            (refine g1_ ?_; repeat ((first | refine n1_ fun b_ => ?_ | refine n2_ fun b_ => ?_ | refine Nat1.mk fun q_ hq_ => ?_ | refine em_ fun x_ hx_ => ?_ | refine Elem1.mk fun e_ he_ => ?_); refine g1_ ?_))
            exact Frz.of_eq (by simp)
        · cases hX
          (refine g0_ ?_; repeat ((first | refine n1_ fun b_ => ?_ | refine n2_ fun b_ => ?_ | refine Nat1.mk fun q_ hq_ => ?_ | refine em_ fun x_ hx_ => ?_ | refine Elem1.mk fun e_ he_ => ?_); refine g0_ ?_))
          refine ⟨_, eql_ipnil Tryd.underlying43, ?_⟩
          (refine g0_ ?_; repeat ((first | refine n1_ fun b_ => ?_ | refine n2_ fun b_ => ?_ | refine Nat1.mk fun q_ hq_ => ?_ | refine em_ fun x_ hx_ => ?_ | refine Elem1.mk fun e_ he_ => ?_); refine g0_ ?_))
          refine ⟨_, eql_ipnil Tryd.underlying43, ?_⟩
          (refine g0_ ?_; repeat ((first | refine n1_ fun b_ => ?_ | refine n2_ fun b_ => ?_ | refine Nat1.mk fun q_ hq_ => ?_ | refine em_ fun x_ hx_ => ?_ | refine Elem1.mk fun e_ he_ => ?_); refine g0_ ?_))
          refine DrawsZ.old (head_ ?_)
          (refine g0_ ?_; repeat ((first | refine n1_ fun b_ => ?_ | refine n2_ fun b_ => ?_ | refine Nat1.mk fun q_ hq_ => ?_ | refine em_ fun x_ hx_ => ?_ | refine Elem1.mk fun e_ he_ => ?_); refine g0_ ?_))
          rw [show (if (120 : Int) < (mb).x then (120 : Int) else (mb).x) = min (mb).x 120 by split <;> omega]
          (refine g0_ ?_; repeat ((first | refine n1_ fun b_ => ?_ | refine n2_ fun b_ => ?_ | refine Nat1.mk fun q_ hq_ => ?_ | refine em_ fun x_ hx_ => ?_ | refine Elem1.mk fun e_ he_ => ?_); refine g0_ ?_))
          refine ⟨_, eq_copying ⟨⟨min (mb).x 120, (mb).y⟩, fr, on⟩ ⟨⟨min (mb).x 120, (mb).y⟩, fr, on⟩ hso hso _ _, ?_⟩
          (refine g1_ ?_; repeat ((first | refine n1_ fun b_ => ?_ | refine n2_ fun b_ => ?_ | refine Nat1.mk fun q_ hq_ => ?_ | refine em_ fun x_ hx_ => ?_ | refine Elem1.mk fun e_ he_ => ?_); refine g1_ ?_))
          exact Frz.of_eq (by simp)
      · rw [hlm] at h2
        obtain ⟨s, hs⟩ : ∃ s, ls[y]? = some s := ⟨ls[y]'(by omega), List.getElem?_eq_getElem _⟩
        have hsb := g2 s (List.mem_of_getElem? hs)
        have hsl := spotsL_le s
        have hsd : ls.getD y [] = s := by rw [List.getD_eq_getElem?_getD, hs]; rfl
        have hlm2 : ((spotsL s).map encSpot).length = (spotsL s).length := List.length_map _
        have hcs := clean_len s
        rw [show ls.length - y = (ls.length - (y + 1)) + 1 by omega, hitsL_succ, hitsAt, hsd] at hH
        (refine g0_ ?_; repeat ((first | refine n1_ fun b_ => ?_ | refine n2_ fun b_ => ?_ | refine Nat1.mk fun q_ hq_ => ?_ | refine em_ fun x_ hx_ => ?_ | refine Elem1.mk fun e_ he_ => ?_); refine g0_ ?_))
        refine (spots_ok W s (by omega)).use ?_; (refine g0_ ?_; repeat ((first | refine n1_ fun b_ => ?_ | refine n2_ fun b_ => ?_ | refine Nat1.mk fun q_ hq_ => ?_ | refine em_ fun x_ hx_ => ?_ | refine Elem1.mk fun e_ he_ => ?_); refine g0_ ?_))
        rw [show spotsRs 0 (runes s) = spotsL s from rfl]
        refine (cleanOf_ok W s (by omega)).use ?_; (refine g0_ ?_; repeat ((first | refine n1_ fun b_ => ?_ | refine n2_ fun b_ => ?_ | refine Nat1.mk fun q_ hq_ => ?_ | refine em_ fun x_ hx_ => ?_ | refine Elem1.mk fun e_ he_ => ?_); refine g0_ ?_))
        rw [show runesV (cleanL s) = (wantL s).map encRune from runesV_eq _, wantL_spots s]
        have hlm4 : (((spotsL s).map Prod.fst).map encRune).length = (spotsL s).length := by rw [List.length_map, List.length_map]
        (refine g0_ ?_; repeat ((first | refine n1_ fun b_ => ?_ | refine n2_ fun b_ => ?_ | refine Nat1.mk fun q_ hq_ => ?_ | refine em_ fun x_ hx_ => ?_ | refine Elem1.mk fun e_ he_ => ?_); refine g0_ ?_))
        refine' loopI (α := Nat × (List Mark) × (Option Mark) × (Option Mark)) (fun (k, H, B, F) => [(73, .int .i64 k), (11, ptrV B), (12, ptrV F)]) [(4, _), (7, _), (8, _), (10, _), (13, _), (15, _), (16, _), (59, _), (60, _), (61, _), (72, _)] (fun (k, H, B, F) => [⟨bX, .row 5 [encCopying xc] 0⟩, ⟨b4, .row 5 [.agg [.int .i64 X, .int .i64 Y, .int .i64 fr.x, .int .i64 fr.y, .bool on]] 0⟩]) (fun (k, H, B, F) => k ≤ (spotsL s).length ∧ H ++ (hitsIn (wantL what) y ((spotsL s).drop k) ++ hitsL ls (wantL what) (y + 1) (ls.length - (y + 1))) = hitsL ls (wantL what) 0 ls.length ∧ B = H.find? (behM X Y) ∧ F = H.head?) (fun (k, H, B, F) => (spotsL s).length - k) (0, H, B, F) ?_ ?_
        · exact ⟨Nat.zero_le _, hH, hB, hF⟩
        clear hH hB hF
        rintro ⟨k, H, B, F⟩ ⟨hk, hH, hB, hF⟩
        (refine g0_ ?_; repeat ((first | refine n1_ fun b_ => ?_ | refine n2_ fun b_ => ?_ | refine Nat1.mk fun q_ hq_ => ?_ | refine em_ fun x_ hx_ => ?_ | refine Elem1.mk fun e_ he_ => ?_); refine g0_ ?_))
        refine brec ?_; intro c_ h3; (try rw [h3]); cases c_ <;> replace h3 := nm_ h3
        · rw [hlm2] at h3
          obtain rfl : k = (spotsL s).length := by omega
          rw [List.drop_length, hitsIn, List.nil_append] at hH
          (refine g0_ ?_; repeat ((first | refine n1_ fun b_ => ?_ | refine n2_ fun b_ => ?_ | refine Nat1.mk fun q_ hq_ => ?_ | refine em_ fun x_ hx_ => ?_ | refine Elem1.mk fun e_ he_ => ?_); refine g0_ ?_))
          refine nx_ (y + 1, H, B, F) ?_ ?_
          · exact ⟨by omega, hH, hB, hF⟩
          · ((try dsimp only); (try simp only [List.length_drop, List.length_take, List.length_append, List.length_cons, List.length_nil, List.length_map] at *); omega)
        · rw [hlm2] at h3
          obtain ⟨q, hq⟩ : ∃ q, (spotsL s)[k]? = some q := ⟨(spotsL s)[k]'(by omega), List.getElem?_eq_getElem _⟩
          rw [drop_cons_of hq, hitsIn, ← drop_cons_of hq] at hH
          (refine g0_ ?_; repeat ((first | refine n1_ fun b_ => ?_ | refine n2_ fun b_ => ?_ | refine Nat1.mk fun q_ hq_ => ?_ | refine em_ fun x_ hx_ => ?_ | refine Elem1.mk fun e_ he_ => ?_); refine g0_ ?_))
          rw [hlm4, List.take_length]
          refine ⟨(((spotsL s).map Prod.fst).drop k).map (fun r : Nat => (r : Int)), by simp [encRune, Function.comp_def, List.map_drop], ?_⟩
          rw [runesBytes_enc]
          (refine g0_ ?_; repeat ((first | refine n1_ fun b_ => ?_ | refine n2_ fun b_ => ?_ | refine Nat1.mk fun q_ hq_ => ?_ | refine em_ fun x_ hx_ => ?_ | refine Elem1.mk fun e_ he_ => ?_); refine g0_ ?_))
          refine (hasPrefix_ok W _ _).use ?_; (refine g0_ ?_; repeat ((first | refine n1_ fun b_ => ?_ | refine n2_ fun b_ => ?_ | refine Nat1.mk fun q_ hq_ => ?_ | refine em_ fun x_ hx_ => ?_ | refine Elem1.mk fun e_ he_ => ?_); refine g0_ ?_))
          rw [stands_iff]
          by_cases hS : standsL ((spotsL s).drop k) (wantL what) = true
          · rw [if_pos hS] at hH
            rw [hS]
            clear hX
            rcases F with _ | mf
            · obtain rfl : H = [] := by
                cases H with
                | nil => rfl
                | cons a l => cases hF
              obtain rfl : B = none := hB
              clear hF
              (refine g1_ ?_; repeat ((first | refine n1_ fun b_ => ?_ | refine n2_ fun b_ => ?_ | refine Nat1.mk fun q_ hq_ => ?_ | refine em_ fun x_ hx_ => ?_ | refine Elem1.mk fun e_ he_ => ?_); refine g1_ ?_))
              refine ⟨_, eql_nilptr Tryd.underlying43, ?_⟩
              (refine g0_ ?_; repeat ((first | refine n1_ fun b_ => ?_ | refine n2_ fun b_ => ?_ | refine Nat1.mk fun q_ hq_ => ?_ | refine em_ fun x_ hx_ => ?_ | refine Elem1.mk fun e_ he_ => ?_); refine g0_ ?_))
              refine freeze2_ 18 12 (.ip (.agg [.int .i64 q.2, .int .i64 y]) 0) (.ip (.agg [.int .i64 q.2, .int .i64 y]) 0) [⟨bX, .row 5 [encCopying xc] 0⟩, ⟨b4, .row 5 [.agg [.int .i64 X, .int .i64 Y, .int .i64 fr.x, .int .i64 fr.y, .bool on]] 0⟩] [⟨b_, .row 2 [.agg [.int .i64 q.2, .int .i64 y]] 0⟩] (List.perm_append_comm (l₁ := [_]) (l₂ := [_, _])) (Frz.bref _ _ 2 _ 0 [] (.here _ _ _)) (Frz.bref _ _ 2 _ 0 [] (.here _ _ _)) (head_ ?_)
              (refine g0_ ?_; repeat ((first | refine n1_ fun b_ => ?_ | refine n2_ fun b_ => ?_ | refine Nat1.mk fun q_ hq_ => ?_ | refine em_ fun x_ hx_ => ?_ | refine Elem1.mk fun e_ he_ => ?_); refine g0_ ?_))
              refine ⟨_, eql_nilptr Tryd.underlying43, ?_⟩
              by_cases c1 : (Y : Int) < y
              · (refine g1_ ?_; repeat ((first | refine n1_ fun b_ => ?_ | refine n2_ fun b_ => ?_ | refine Nat1.mk fun q_ hq_ => ?_ | refine em_ fun x_ hx_ => ?_ | refine Elem1.mk fun e_ he_ => ?_); refine g1_ ?_))
                refine nx_ (k + 1, [] ++ [⟨q.2, y⟩], (some ⟨q.2, y⟩), (some ⟨q.2, y⟩)) ?_ ?_
                · exact ⟨by omega, by rw [← hH]; simp, by rw [List.find?_append, ← (show (none : Option Mark) = ([] : List Mark).find? (behM X Y) from rfl)]; simp [behM, c1], by rw [List.head?_append, ← (show (none : Option Mark) = ([] : List Mark).head? from rfl)]; rfl⟩
                · ((try dsimp only); (try simp only [List.length_drop, List.length_take, List.length_append, List.length_cons, List.length_nil, List.length_map] at *); omega)
              · by_cases c2 : y = Y
                · by_cases c3 : X < q.2
                  · have c2' : (y : Int) = Y := by omega
                    (refine g1_ ?_; repeat ((first | refine n1_ fun b_ => ?_ | refine n2_ fun b_ => ?_ | refine Nat1.mk fun q_ hq_ => ?_ | refine em_ fun x_ hx_ => ?_ | refine Elem1.mk fun e_ he_ => ?_); refine g1_ ?_))
                    refine nx_ (k + 1, [] ++ [⟨q.2, y⟩], (some ⟨q.2, y⟩), (some ⟨q.2, y⟩)) ?_ ?_
                    · exact ⟨by omega, by rw [← hH]; simp, by rw [List.find?_append, ← (show (none : Option Mark) = ([] : List Mark).find? (behM X Y) from rfl)]; simp [behM, c2', c3], by rw [List.head?_append, ← (show (none : Option Mark) = ([] : List Mark).head? from rfl)]; rfl⟩
                    · ((try dsimp only); (try simp only [List.length_drop, List.length_take, List.length_append, List.length_cons, List.length_nil, List.length_map] at *); omega)
                  · have c2' : (y : Int) = Y := by omega
                    (refine g1_ ?_; repeat ((first | refine n1_ fun b_ => ?_ | refine n2_ fun b_ => ?_ | refine Nat1.mk fun q_ hq_ => ?_ | refine em_ fun x_ hx_ => ?_ | refine Elem1.mk fun e_ he_ => ?_); refine g1_ ?_))
                    refine nx_ (k + 1, [] ++ [⟨q.2, y⟩], none, (some ⟨q.2, y⟩)) ?_ ?_
                    · exact ⟨by omega, by rw [← hH]; simp, by rw [List.find?_append, ← (show (none : Option Mark) = ([] : List Mark).find? (behM X Y) from rfl)]; simp [behM, c2', c3], by rw [List.head?_append, ← (show (none : Option Mark) = ([] : List Mark).head? from rfl)]; rfl⟩
                    · ((try dsimp only); (try simp only [List.length_drop, List.length_take, List.length_append, List.length_cons, List.length_nil, List.length_map] at *); omega)
                · have c2' : ¬ (y : Int) = Y := by omega
                  (refine g1_ ?_; repeat ((first | refine n1_ fun b_ => ?_ | refine n2_ fun b_ => ?_ | refine Nat1.mk fun q_ hq_ => ?_ | refine em_ fun x_ hx_ => ?_ | refine Elem1.mk fun e_ he_ => ?_); refine g1_ ?_))
                  refine nx_ (k + 1, [] ++ [⟨q.2, y⟩], none, (some ⟨q.2, y⟩)) ?_ ?_
                  · exact ⟨by omega, by rw [← hH]; simp, by rw [List.find?_append, ← (show (none : Option Mark) = ([] : List Mark).find? (behM X Y) from rfl)]; simp [behM, c1, c2'], by rw [List.head?_append, ← (show (none : Option Mark) = ([] : List Mark).head? from rfl)]; rfl⟩
                  · ((try dsimp only); (try simp only [List.length_drop, List.length_take, List.length_append, List.length_cons, List.length_nil, List.length_map] at *); omega)
            · (refine g1_ ?_; repeat ((first | refine n1_ fun b_ => ?_ | refine n2_ fun b_ => ?_ | refine Nat1.mk fun q_ hq_ => ?_ | refine em_ fun x_ hx_ => ?_ | refine Elem1.mk fun e_ he_ => ?_); refine g1_ ?_))
              refine ⟨_, eql_ipnil Tryd.underlying43, ?_⟩
              (refine g0_ ?_; repeat ((first | refine n1_ fun b_ => ?_ | refine n2_ fun b_ => ?_ | refine Nat1.mk fun q_ hq_ => ?_ | refine em_ fun x_ hx_ => ?_ | refine Elem1.mk fun e_ he_ => ?_); refine g0_ ?_))
              refine freeze_ 18 (.ip (.agg [.int .i64 q.2, .int .i64 y]) 0) [⟨bX, .row 5 [encCopying xc] 0⟩, ⟨b4, .row 5 [.agg [.int .i64 X, .int .i64 Y, .int .i64 fr.x, .int .i64 fr.y, .bool on]] 0⟩] [⟨b_, .row 2 [.agg [.int .i64 q.2, .int .i64 y]] 0⟩] (List.perm_append_comm (l₁ := [_]) (l₂ := [_, _])) (Frz.bref _ _ 2 _ 0 [] (.here _ _ _)) (head_ ?_)
              rcases B with _ | mb
              · (refine g0_ ?_; repeat ((first | refine n1_ fun b_ => ?_ | refine n2_ fun b_ => ?_ | refine Nat1.mk fun q_ hq_ => ?_ | refine em_ fun x_ hx_ => ?_ | refine Elem1.mk fun e_ he_ => ?_); refine g0_ ?_))
                refine ⟨_, eql_nilptr Tryd.underlying43, ?_⟩
                by_cases c1 : (Y : Int) < y
                · (refine g1_ ?_; repeat ((first | refine n1_ fun b_ => ?_ | refine n2_ fun b_ => ?_ | refine Nat1.mk fun q_ hq_ => ?_ | refine em_ fun x_ hx_ => ?_ | refine Elem1.mk fun e_ he_ => ?_); refine g1_ ?_))
                  refine nx_ (k + 1, H ++ [⟨q.2, y⟩], (some ⟨q.2, y⟩), (some mf)) ?_ ?_
                  · exact ⟨by omega, by rw [← hH]; simp, by rw [List.find?_append, ← hB]; simp [behM, c1], by rw [List.head?_append, ← hF]; rfl⟩
                  · ((try dsimp only); (try simp only [List.length_drop, List.length_take, List.length_append, List.length_cons, List.length_nil, List.length_map] at *); omega)
                · by_cases c2 : y = Y
                  · by_cases c3 : X < q.2
                    · have c2' : (y : Int) = Y := by omega
                      (refine g1_ ?_; repeat ((first | refine n1_ fun b_ => ?_ | refine n2_ fun b_ => ?_ | refine Nat1.mk fun q_ hq_ => ?_ | refine em_ fun x_ hx_ => ?_ | refine Elem1.mk fun e_ he_ => ?_); refine g1_ ?_))
                      refine nx_ (k + 1, H ++ [⟨q.2, y⟩], (some ⟨q.2, y⟩), (some mf)) ?_ ?_
                      · exact ⟨by omega, by rw [← hH]; simp, by rw [List.find?_append, ← hB]; simp [behM, c2', c3], by rw [List.head?_append, ← hF]; rfl⟩
                      · ((try dsimp only); (try simp only [List.length_drop, List.length_take, List.length_append, List.length_cons, List.length_nil, List.length_map] at *); omega)
                    · have c2' : (y : Int) = Y := by omega
                      (refine g1_ ?_; repeat ((first | refine n1_ fun b_ => ?_ | refine n2_ fun b_ => ?_ | refine Nat1.mk fun q_ hq_ => ?_ | refine em_ fun x_ hx_ => ?_ | refine Elem1.mk fun e_ he_ => ?_); refine g1_ ?_))
                      refine nx_ (k + 1, H ++ [⟨q.2, y⟩], none, (some mf)) ?_ ?_
                      · exact ⟨by omega, by rw [← hH]; simp, by rw [List.find?_append, ← hB]; simp [behM, c2', c3], by rw [List.head?_append, ← hF]; rfl⟩
                      · ((try dsimp only); (try simp only [List.length_drop, List.length_take, List.length_append, List.length_cons, List.length_nil, List.length_map] at *); omega)
                  · have c2' : ¬ (y : Int) = Y := by omega
                    (refine g1_ ?_; repeat ((first | refine n1_ fun b_ => ?_ | refine n2_ fun b_ => ?_ | refine Nat1.mk fun q_ hq_ => ?_ | refine em_ fun x_ hx_ => ?_ | refine Elem1.mk fun e_ he_ => ?_); refine g1_ ?_))
                    refine nx_ (k + 1, H ++ [⟨q.2, y⟩], none, (some mf)) ?_ ?_
                    · exact ⟨by omega, by rw [← hH]; simp, by rw [List.find?_append, ← hB]; simp [behM, c1, c2'], by rw [List.head?_append, ← hF]; rfl⟩
                    · ((try dsimp only); (try simp only [List.length_drop, List.length_take, List.length_append, List.length_cons, List.length_nil, List.length_map] at *); omega)
              · (refine g0_ ?_; repeat ((first | refine n1_ fun b_ => ?_ | refine n2_ fun b_ => ?_ | refine Nat1.mk fun q_ hq_ => ?_ | refine em_ fun x_ hx_ => ?_ | refine Elem1.mk fun e_ he_ => ?_); refine g0_ ?_))
                refine ⟨_, eql_ipnil Tryd.underlying43, ?_⟩
                (refine g1_ ?_; repeat ((first | refine n1_ fun b_ => ?_ | refine n2_ fun b_ => ?_ | refine Nat1.mk fun q_ hq_ => ?_ | refine em_ fun x_ hx_ => ?_ | refine Elem1.mk fun e_ he_ => ?_); refine g1_ ?_))
                refine nx_ (k + 1, H ++ [⟨q.2, y⟩], (some mb), (some mf)) ?_ ?_
                · exact ⟨by omega, by rw [← hH]; simp, by rw [List.find?_append, ← hB]; simp, by rw [List.head?_append, ← hF]; rfl⟩
                · ((try dsimp only); (try simp only [List.length_drop, List.length_take, List.length_append, List.length_cons, List.length_nil, List.length_map] at *); omega)
          · rw [if_neg hS, List.nil_append] at hH
            rw [Bool.not_eq_true] at hS
            rw [hS]
            (refine g1_ ?_; repeat ((first | refine n1_ fun b_ => ?_ | refine n2_ fun b_ => ?_ | refine Nat1.mk fun q_ hq_ => ?_ | refine em_ fun x_ hx_ => ?_ | refine Elem1.mk fun e_ he_ => ?_); refine g1_ ?_))
            refine nx_ (k + 1, H, B, F) ?_ ?_
            · exact ⟨by omega, hH, hB, hF⟩
            · ((try dsimp only); (try simp only [List.length_drop, List.length_take, List.length_append, List.length_cons, List.length_nil, List.length_map] at *); omega)
  · have e1 : seekE ls c what = (noCopying, checkC ls c) := by rw [seekE, if_pos h]
    rw [e1] at hse
    dsimp only at hse
    refine Pure.of (acalls_of_vc (DG_ok (by decide)) Tryd.func4 rfl (by decide) (by decide) rfl ?_)
    (refine g0_ ?_; repeat ((first | refine n1_ fun b_ => ?_ | refine n2_ fun b_ => ?_ | refine Nat1.mk fun q_ hq_ => ?_ | refine em_ fun x_ hx_ => ?_ | refine Elem1.mk fun e_ he_ => ?_); refine g0_ ?_))
    refine (hse).use ?_; (refine g0_ ?_; repeat ((first | refine n1_ fun b_ => ?_ | refine n2_ fun b_ => ?_ | refine Nat1.mk fun q_ hq_ => ?_ | refine em_ fun x_ hx_ => ?_ | refine Elem1.mk fun e_ he_ => ?_); refine g0_ ?_))
    refine (hck).use ?_; (refine g0_ ?_; repeat ((first | refine n1_ fun b_ => ?_ | refine n2_ fun b_ => ?_ | refine Nat1.mk fun q_ hq_ => ?_ | refine em_ fun x_ hx_ => ?_ | refine Elem1.mk fun e_ he_ => ?_); refine g0_ ?_))
    refine (hcl).use ?_; (refine g0_ ?_; repeat ((first | refine n1_ fun b_ => ?_ | refine n2_ fun b_ => ?_ | refine Nat1.mk fun q_ hq_ => ?_ | refine em_ fun x_ hx_ => ?_ | refine Elem1.mk fun e_ he_ => ?_); refine g0_ ?_))
    (refine g1_ ?_; repeat ((first | refine n1_ fun b_ => ?_ | refine n2_ fun b_ => ?_ | refine Nat1.mk fun q_ hq_ => ?_ | refine em_ fun x_ hx_ => ?_ | refine Elem1.mk fun e_ he_ => ?_); refine g1_ ?_))
    refine (hco).use ?_; (refine g0_ ?_; repeat ((first | refine n1_ fun b_ => ?_ | refine n2_ fun b_ => ?_ | refine Nat1.mk fun q_ hq_ => ?_ | refine em_ fun x_ hx_ => ?_ | refine Elem1.mk fun e_ he_ => ?_); refine g0_ ?_))
    (refine g1_ ?_; repeat ((first | refine n1_ fun b_ => ?_ | refine n2_ fun b_ => ?_ | refine Nat1.mk fun q_ hq_ => ?_ | refine em_ fun x_ hx_ => ?_ | refine Elem1.mk fun e_ he_ => ?_); refine g1_ ?_))
    refine (hco).use ?_; (refine g0_ ?_; repeat ((first | refine n1_ fun b_ => ?_ | refine n2_ fun b_ => ?_ | refine Nat1.mk fun q_ hq_ => ?_ | refine em_ fun x_ hx_ => ?_ | refine Elem1.mk fun e_ he_ => ?_); refine g0_ ?_))
    (refine g1_ ?_; repeat ((first | refine n1_ fun b_ => ?_ | refine n2_ fun b_ => ?_ | refine Nat1.mk fun q_ hq_ => ?_ | refine em_ fun x_ hx_ => ?_ | refine Elem1.mk fun e_ he_ => ?_); refine g1_ ?_))
    refine ⟨_, eq_copying noCopying noCopying (by decide) (by decide) _ _, ?_⟩
    (refine g1_ ?_; repeat ((first | refine n1_ fun b_ => ?_ | refine n2_ fun b_ => ?_ | refine Nat1.mk fun q_ hq_ => ?_ | refine em_ fun x_ hx_ => ?_ | refine Elem1.mk fun e_ he_ => ?_); refine g1_ ?_))
    exact Frz.of_eq (by simp)
end Go.Eng.YtdepccblnhkmkaaDoor
end
