/- Texts put together: HseL, HseN. -/
import Derived.Test.YtkenlcaifhffoaaDoorMSB
import Derived.Test.YtkenlcaifhffoaaDoorMT1
import Derived.Test.YtkenlcaifhffoaaDoorMV1
/- Houses: what they are, their names, the check (plain). -/
section
namespace Go.Eng.YtkenlcaifhffoaaDoor
open Go Go.Eng Go.Proofs
set_option linter.unusedSimpArgs false
set_option maxRecDepth 100000
set_option linter.unusedVariables false
set_option maxHeartbeats 4000000
structure Win where
  name : List UInt8
  s : Spl
  act : Int
  bef : Int
  zoom : Bool
structure Ses where
  name : List UInt8
  wins : List Win
  act : Int
  bef : Int
structure Vw where
  s : Int
  w : Int
  h : Int
structure Hs where
  ses : List Ses
  views : List Vw
  next : Int
def encWin (x : Win) : PV := .agg [.str x.name, .int .i64 x.s.way, .int .i64 x.s.pane, .int .i64 x.s.size, .sl 4 (encSpls x.s.kids), .int .i64 x.act, .int .i64 x.bef, .bool x.zoom]
def encSes (x : Ses) : PV := .agg [.str x.name, .sl 8 (x.wins.map encWin), .int .i64 x.act, .int .i64 x.bef]
def encVw (x : Vw) : PV := .agg [.int .i64 x.s, .int .i64 x.w, .int .i64 x.h]
def encHs (h : Hs) : PV := .agg [.sl 4 (h.ses.map encSes), .sl 3 (h.views.map encVw), .int .i64 h.next]
theorem encSpl_eta (t : Spl) : encSpl t = .agg [.int .i64 t.way, .int .i64 t.pane, .int .i64 t.size, .sl 4 (encSpls t.kids)] := by
  obtain ⟨w, p, s, ks⟩ := t
  rfl
structure Win.ok (x : Win) : Prop where
  name : x.name.length ≤ 1048576
  s : x.s.ok
  act : i64ok x.act
  bef : i64ok x.bef
structure Ses.ok (x : Ses) : Prop where
  name : x.name.length ≤ 1048576
  wins : x.wins.length ≤ 1048576
  win : ∀ w ∈ x.wins, w.ok
  act : i64ok x.act
  bef : i64ok x.bef
def Vw.ok (x : Vw) : Prop := i64ok x.s ∧ i64ok x.w ∧ i64ok x.h
structure Hs.ok (x : Hs) : Prop where
  ses : x.ses.length ≤ 1048576
  se : ∀ s ∈ x.ses, s.ok
  views : x.views.length ≤ 1048576
  view : ∀ v ∈ x.views, v.ok
  next : i64ok x.next
def nameB (s : List UInt8) : Bool := decide (0 < (runes s).length) && (decide ((runes s).length ≤ 20) && (decide (cleanL s = s) && !s.contains 32))
def chkPs (next : Int) : List Int → List Int → Int × List Int
  | [], met => (0, met)
  | p :: l, met => if p ∈ met then (7, met) else if next ≤ p then (4, met) else chkPs next l (met ++ [p])
def chkW (next : Int) (w : Win) (met : List Int) : Int × List Int :=
  if nameB w.name = false then (1, met)
  else if (visS w.s 0 (0, [])).1 ≠ 0 then ((visS w.s 0 (0, [])).1, met)
  else if w.act ∉ panesT w.s ∨ (w.bef ≠ 0 ∧ w.bef ∉ panesT w.s) then (6, met)
  else chkPs next (panesT w.s) met
def chkWs (next : Int) : List Win → List Int → Int × List Int
  | [], met => (0, met)
  | w :: l, met => if (chkW next w met).1 ≠ 0 then chkW next w met else chkWs next l (chkW next w met).2
def chkS1 (x : Ses) (seen : List (List UInt8)) : Int :=
  if nameB x.name = false then 1 else if x.name ∈ seen then 7 else if x.wins.length < 1 ∨ 6 < x.wins.length then 2
  else if x.act < 0 ∨ (x.wins.length : Int) ≤ x.act ∨ x.bef < 0 ∨ (x.wins.length : Int) ≤ x.bef then 6 else 0
def chkSs (next : Int) : List Ses → List (List UInt8) → List Int → Int
  | [], _, _ => 0
  | x :: l, seen, met => if chkS1 x seen ≠ 0 then chkS1 x seen else if (chkWs next x.wins met).1 ≠ 0 then (chkWs next x.wins met).1 else chkSs next l (seen ++ [x.name]) (chkWs next x.wins met).2
def chkV (n : Nat) (v : Vw) : Int := if v.s < 0 ∨ (n : Int) ≤ v.s then 6 else if v.w < 1 ∨ 120 < v.w ∨ v.h < 1 ∨ 60 < v.h then 3 else 0
def chkVs (n : Nat) : List Vw → Int
  | [] => 0
  | v :: l => if chkV n v ≠ 0 then chkV n v else chkVs n l
def chkH (h : Hs) : Int :=
  if 4 < h.ses.length ∨ 4 < h.views.length then 2
  else if chkSs h.next h.ses [] [] ≠ 0 then chkSs h.next h.ses [] []
  else if h.next < 1 ∨ 9999 < h.next then 4
  else chkVs h.ses.length h.views
theorem kept_pos {l : List (Nat × Nat)} : ∀ p ∈ keptRs l, 0 < widthL p.1 := by
  intro p hp
  unfold keptRs at hp
  obtain ⟨q, hq, rfl⟩ := List.mem_map.1 hp
  simpa using (List.mem_filter.1 hq).2
theorem clean_pos {s : List UInt8} (h : cleanL s = s) : ∀ p ∈ runes s, 0 < widthL p.1 := by
  rw [← h, cleanL, runes_clean]
  exact kept_pos
end Go.Eng.YtkenlcaifhffoaaDoor
end

/- Houses: names, of package house and of the document (b_ x_ q_ e_). -/
section
namespace Go.Eng.YtkenlcaifhffoaaDoor
open Go Go.Eng Go.Proofs
variable (W : World)
set_option linter.unusedSimpArgs false
set_option maxRecDepth 100000
set_option linter.unusedVariables false
set_option maxHeartbeats 4000000
theorem runesFrom_eqH (s : List UInt8) : ∀ (n i : Nat) (acc : Array Value), s.length - i ≤ n → (Conv.runesFrom ⟨s.toArray⟩ n i acc).toList = acc.toList ++ (runes (s.drop i)).map fun p => Value.int .i32 p.1
  | 0, i, acc, h => by
    rw [Conv.runesFrom, List.drop_of_length_le (by omega), runes_nil]; simp
  | n + 1, i, acc, h => by
    rw [Conv.runesFrom]
    by_cases hi : i < s.length
    · have hne : s.drop i ≠ [] := by simp; omega
      rw [if_pos (by simpa [ByteArray.size] using hi), decode_drop s i hi]
      have := dec_pos (s.drop i) hne
      dsimp only
      rw [runesFrom_eqH s n _ _ (by omega), runes_cons hne, List.drop_drop]
      simp
    · rw [if_neg (by simpa [ByteArray.size] using hi), List.drop_of_length_le (by omega), runes_nil]; simp
def runeI (n : Nat) : PV := .int .i32 n
theorem runesV_eqH (s : List UInt8) : runesV s = ((runes s).map Prod.fst).map runeI := by
  rw [runesV, runesFrom_eqH s s.length 0 #[] (by omega)]
  simp [runeI, ofV1]
def encHL : List Nat → List UInt8
  | [] => []
  | r :: l => Lib.encodeRune r ++ encHL l
theorem runesBytes_encH (l : List Nat) : (runesBytes (l.map fun r : Nat => (r : Int))).data.toList = encHL l := by
  have key : ∀ (l : List Nat) (acc : ByteArray), ((l.map fun r : Nat => (r : Int)).foldl (fun r n => r ++ Utf8.encode n) acc).data.toList = acc.data.toList ++ encHL l := by
    intro l
    induction l with
    | nil => intro acc; simp [encHL]
    | cons n l ih =>
      intro acc
      rw [List.map_cons, List.foldl_cons, ih, encHL, ← enc_utf8]
      simp [ByteArray.data_append]
  have := key l ByteArray.empty
  rw [runesBytes, this]
  rfl
theorem cleanRs_encH : ∀ l : List (Nat × Nat), (∀ p ∈ l, 0 < widthL p.1) → cleanRs l = encHL (l.map Prod.fst)
  | [], _ => rfl
  | p :: l, h => by rw [cleanRs, if_pos (h p (by simp)), List.map_cons, encHL, cleanRs_encH l fun q hq => h q (by simp [hq])]
theorem enc_clean {s : List UInt8} (h : cleanL s = s) : encHL ((runes s).map Prod.fst) = s := by
  rw [← cleanRs_encH _ (clean_pos h)]
  exact h
theorem enc_low (r : Nat) (c : UInt8) (hc : c.toNat < 128) : c ∈ Lib.encodeRune r ↔ r = c.toNat := by
  have hb : ∀ x : Int, 128 ≤ x → x < 256 → c ≠ x.toNat.toUInt8 := by
    intro x h1 h2 e
    have := congrArg UInt8.toNat e
    rw [Nat.toUInt8, UInt8.toNat_ofNat'] at this
    omega
  unfold Lib.encodeRune Lib.encodeRuneZ
  split
  · rename_i h
    simp only [List.map_cons, List.map_nil, List.mem_singleton]
    rw [← UInt8.toNat_inj, Nat.toUInt8, UInt8.toNat_ofNat']
    omega
  · rename_i h1
    have hne : r ≠ c.toNat := by omega
    (repeat' split)
    all_goals
      simp only [List.map_cons, List.map_nil, List.mem_cons, List.not_mem_nil, or_false]
      refine ⟨fun h => ?_, fun h => absurd h hne⟩
      first
        | (rcases h with h | h | h | h <;> exact absurd h (hb _ (by omega) (by omega)))
        | (rcases h with h | h | h <;> exact absurd h (hb _ (by omega) (by omega)))
        | (rcases h with h | h <;> exact absurd h (hb _ (by omega) (by omega)))
theorem enc_has (c : UInt8) (hc : c.toNat < 128) : ∀ l : List Nat, c ∈ encHL l ↔ c.toNat ∈ l
  | [] => by simp [encHL]
  | r :: l => by
    rw [encHL, List.mem_append, enc_low r c hc, enc_has c hc l, List.mem_cons]
    constructor
    · rintro (h | h)
      · exact .inl h.symm
      · exact .inr h
    · rintro (h | h)
      · exact .inl h.symm
      · exact .inr h
theorem blank_rune {s : List UInt8} (h : cleanL s = s) : s.contains 32 = ((runes s).map Prod.fst).contains 32 := by
  have := enc_has 32 (by decide) ((runes s).map Prod.fst)
  rw [enc_clean h] at this
  rw [Bool.eq_iff_iff, List.contains_iff_mem, List.contains_iff_mem]
  exact this
def runesI (l : List Nat) : List PV := l.map runeI
theorem indexRn_ok (l : List Nat) (x : Nat) (hl : (l.length : Int) ≤ 9223372036854775807) : Pure Tryd.prog W 108 [.sl 1 (l.map runeI), .int .i32 x] (.int .i64 (if x ∈ l then (l.idxOf x : Nat) else -1)) := by
  unfold runeI
  refine Pure.of (acalls_of_vc (drawOk W) Tryd.func108 rfl (by decide) (by decide) rfl ?_)
  refine g0_ ?_
  refine' loopI (α := Nat) (fun i => [(8, .int .i64 i)]) [(0, _), (1, _), (7, _)] (fun i => []) (fun i => i ≤ l.length ∧ x ∉ l.take i) (fun i => l.length - i) 0 ?_ ?_
  · exact ⟨Nat.zero_le _, by simp⟩
  rintro i ⟨hi, hx⟩
  refine g0_ ?_
  refine brec ?_; intro c_ h1; (try rw [h1]); cases c_ <;> replace h1 := nm_ h1
  · have : i = l.length := by simp at h1; omega
    subst this
    rw [List.take_length] at hx
    refine g0_ ?_
    exact .of_eq (by rw [if_neg hx])
  · have hlt : i < l.length := by simp at h1; omega
    (refine g0_ ?_; repeat (refine em_ fun x_ hx_ => ?_; refine g0_ ?_))
    refine brec ?_; intro c_ h2; (try rw [h2]); cases c_ <;> replace h2 := nm_ h2
    · refine g0_ ?_
      refine nx_ (i + 1) ?_ ?_
      · exact ⟨hlt, by
          rw [take_snoc_of hx_, List.mem_append, not_or]
          refine ⟨hx, ?_⟩
          simp; omega⟩
      · omega
    · refine g0_ ?_
      refine .of_eq ?_
      have h2 : x = x_ := by omega
      have hm : x ∈ l := by
        have := List.mem_of_getElem? hx_
        rw [h2]; exact this
      have hio : l.idxOf x = i := by
        have e : l = l.take i ++ l.drop i := (List.take_append_drop i l).symm
        have e2 : l.drop i = x :: l.drop (i + 1) := by
          rw [List.drop_eq_getElem_cons hlt]
          have := (List.getElem?_eq_some_iff.1 hx_).2
          rw [this, h2]
        rw [e, e2, List.idxOf_append, if_neg hx, List.idxOf_cons_self, List.length_take]
        omega
      rw [if_pos hm, hio]
theorem containsRn_ok (l : List Nat) (x : Nat) (hl : (l.length : Int) ≤ 9223372036854775807) : Pure Tryd.prog W 82 [.sl 1 (l.map runeI), .int .i32 x] (.bool (l.contains x)) := by
  refine Pure.of (acalls_of_vc (drawOk W) Tryd.func82 rfl (by decide) (by decide) rfl ?_)
  refine g0_ ?_
  refine (indexRn_ok W l x hl).use ?_; refine g0_ ?_
  refine .of_eq (congrArg PV.bool ?_)
  split
  · next h => simp [h]
  · next h => simp [h]
theorem nameP_ok (hT : Tabs W) (s : List UInt8) (hs : s.length ≤ 1048576) : Pure Tryd.prog W 43 [.str s] (.bool (nameB s)) := by
  have hcl := clean_ok W hT s (by omega)
  have hrv := runesV_eqH s
  have hct := fun h => containsRn_ok W ((runes s).map Prod.fst) 32 h
  have hcb := blank_rune (s := s)
  have hec := enc_clean (s := s)
  unfold nameB
  have hlm : (List.map runeI ((runes s).map Prod.fst)).length = (runes s).length := by simp
  have hl2 : ((runes s).map Prod.fst).length = (runes s).length := by simp
  generalize (runes s).map Prod.fst = R at *
  generalize (runes s).length = N at *
  by_cases h1 : 0 < N
  · by_cases h2 : N ≤ 20
    · by_cases h3 : cleanL s = s
      · rw [h3] at hcl
        have hec := hec h3
        have hct := hct (by omega)
        rw [← hcb h3] at hct
        cases h4 : s.contains 32 with
        | true =>
          rw [h4] at hct
          refine Pure.of (acalls_of_vc (drawOk W) Tryd.func43 rfl (by decide) (by decide) rfl ?_)
          refine g0_ ?_
          rw [hrv]
          refine g1_ ?_
          refine (hcl).use ?_; refine g0_ ?_
          refine g1_ ?_
          refine (hct).use ?_; refine g0_ ?_
          refine g1_ ?_
          exact .of_eq (by simp [h1, h2, h3])
        | false =>
          rw [h4] at hct
          refine Pure.of (acalls_of_vc (drawOk W) Tryd.func43 rfl (by decide) (by decide) rfl ?_)
          refine g0_ ?_
          rw [hrv]
          refine g1_ ?_
          refine (hcl).use ?_; refine g0_ ?_
          refine g1_ ?_
          refine (hct).use ?_; refine g0_ ?_
          refine g1_ ?_
          refine ⟨R.map fun r : Nat => (r : Int), by simp [runeI], ?_⟩
          rw [runesBytes_encH, hec]
          refine g1_ ?_
          exact .of_eq (by simp [h1, h2, h3])
      · refine Pure.of (acalls_of_vc (drawOk W) Tryd.func43 rfl (by decide) (by decide) rfl ?_)
        refine g0_ ?_
        rw [hrv]
        refine g1_ ?_
        refine (hcl).use ?_; refine g0_ ?_
        refine g1_ ?_
        exact .of_eq (by simp [h1, h2, h3])
    · refine Pure.of (acalls_of_vc (drawOk W) Tryd.func43 rfl (by decide) (by decide) rfl ?_)
      refine g0_ ?_
      rw [hrv]
      refine g1_ ?_
      exact .of_eq (by simp [h1, h2])
  · refine Pure.of (acalls_of_vc (drawOk W) Tryd.func43 rfl (by decide) (by decide) rfl ?_)
    refine g0_ ?_
    rw [hrv]
    refine g1_ ?_
    exact .of_eq (by simp [h1])
end Go.Eng.YtkenlcaifhffoaaDoor
end
