/- The engine, part 4: soundness of slicing, conversions, literals, and of what writes memory. -/
import Derived.Test.YtlfdmdhkbillpaaDoorEng3
import Derived.Lib.Builder
namespace Go.Eng
open Go

variable {P : Program} {K : Kn} {w : World}

theorem getD_pair (l : List PV) (a b j : Nat) (hj : j < b - a) : ((l.take b).drop a).getD j .dead = l.getD (a + j) .dead := by
  simp [List.getD_eq_getElem?_getD, show a + j < b by omega]

/-- A value that may be left out. -/
def ORel (K : Kn) (w : World) (p : Option PV) (v : Option Value) : Prop :=
  match p, v with
  | none, none => True
  | some p, some v => VRel K w p v
  | _, _ => False

theorem boundsV_sound {lo hi mx : Option PV} {ul uh um : Option Value} {n cap : Nat} {isS : Bool} {G : Nat → Nat → Prop} (hn : n ≤ cap)
    (h1 : ORel K w lo ul) (h2 : ORel K w hi uh) (h3 : ORel K w mx um) (h : boundsV lo hi mx n G) :
    ∃ l h m, (Instr.sliceBounds isS n cap ul uh um).run P w = .ok (l, h, m) w ∧ l ≤ h ∧ h ≤ n ∧ h ≤ m ∧ m ≤ cap ∧ (mx = none → m = cap) ∧ G l h := by
  have e1 : ∃ l : Int, ((lo = none ∧ l = 0) ∨ ∃ k, lo = some (.int k l) ∧ ul = some (.int k l)) ∧ ∃ hh : Int, ((hi = none ∧ hh = n) ∨ ∃ k, hi = some (.int k hh) ∧ uh = some (.int k hh)) ∧
      boundsT hi mx n l hh G := by
    unfold boundsV at h
    split at h
    · rename_i kl l kh hh e1 e2
      refine ⟨l, ?_, hh, ?_, h⟩
      · cases lo with
        | none => injection e1 with e3 e4; exact .inl ⟨rfl, e4.symm⟩
        | some p =>
          simp only at e1; subst e1
          cases ul with
          | none => exact h1.elim
          | some v => cases h1; exact .inr ⟨_, rfl, rfl⟩
      · cases hi with
        | none => injection e2 with e3 e4; exact .inl ⟨rfl, e4.symm⟩
        | some p =>
          simp only at e2; subst e2
          cases uh with
          | none => exact h2.elim
          | some v => cases h2; exact .inr ⟨_, rfl, rfl⟩
    · exact h.elim
  obtain ⟨l, hl, hh, hhh, hg⟩ := e1
  have n1 : lo = none → ul = none := by rintro rfl; cases ul with | none => rfl | some v => exact h1.elim
  have n2 : hi = none → uh = none := by rintro rfl; cases uh with | none => rfl | some v => exact h2.elim
  cases mx with
  | none =>
    cases um with
    | some v => exact h3.elim
    | none =>
    obtain ⟨⟨g1, g2, g3⟩, g4⟩ := hg
    refine ⟨l.toNat, hh.toNat, cap, ?_, by omega, by omega, by omega, Nat.le_refl _, fun _ => rfl, (g4.all _ (by omega : l = (l.toNat : Int))).all _ (by omega : hh = (hh.toNat : Int))⟩
    rcases hl with ⟨e, rfl⟩ | ⟨k1, _, e1⟩ <;> rcases hhh with ⟨e', rfl⟩ | ⟨k2, _, e2⟩
    · simp [Instr.sliceBounds, n1 e, n2 e']
    · simp [Instr.sliceBounds, n1 e, e2, run_sliceBound (P := P) w k2 hh cap _ (by omega) (by omega)]
    · simp [Instr.sliceBounds, e1, n2 e', run_sliceBound (P := P) w k1 l n _ g1 g2]
    · simp [Instr.sliceBounds, e1, e2, run_sliceBound (P := P) w k2 hh cap _ (by omega) (by omega), run_sliceBound (P := P) w k1 l hh.toNat _ g1 (by omega)]
  | some pm =>
    cases um with
    | none => exact h3.elim
    | some vm =>
    cases pm <;> (try exact hg.elim)
    rename_i km m
    rcases hhh with ⟨e, rfl⟩ | ⟨k, e, e'⟩
    · subst e; exact hg.elim
    · subst e
      obtain ⟨⟨g1, g2, g3, g3'⟩, g4⟩ := hg
      cases h3
      refine ⟨l.toNat, hh.toNat, m.toNat, ?_, by omega, by omega, by omega, by omega, (fun e => nomatch e), (g4.all _ (by omega : l = (l.toNat : Int))).all _ (by omega : hh = (hh.toNat : Int))⟩
      rcases hl with ⟨e, rfl⟩ | ⟨k1, _, e1⟩
      · simp [Instr.sliceBounds, e', n1 e, run_sliceBound (P := P) w km m cap _ (by omega) (by omega), run_sliceBound (P := P) w k hh m.toNat _ (by omega) (by omega)]
      · simp [Instr.sliceBounds, e', e1, run_sliceBound (P := P) w km m cap _ (by omega) (by omega), run_sliceBound (P := P) w k hh m.toNat _ (by omega) (by omega), run_sliceBound (P := P) w k1 l hh.toNat _ g1 (by omega)]

theorem sliceV_sound {t : TypeId} {x : PV} {u : Value} {lo hi mx : Option PV} {ul uh um : Option Value} {k : PV → Prop} (hx : VRel K w x u)
    (h1 : ORel K w lo ul) (h2 : ORel K w hi uh) (h3 : ORel K w mx um)
    (h : sliceV P t x lo hi mx k) : ∃ pv r, (Instr.sliceAt t u ul uh um).run P w = .ok r w ∧ VRel K w pv r ∧ k pv := by
  simp only [sliceV] at h
  split at h
  · rename_i he
    split at h
    case h_2 => exact h.elim
    cases hx
    rename_i s
    obtain ⟨l, hh, m, hr, g1, g2, g3, g4, _, g5⟩ := boundsV_sound (P := P) (isS := false) (Nat.le_refl s.length) h1 h2 h3 h
    refine ⟨_, .string ⟨((s.take hh).drop l).toArray⟩, ?_, .str _, g5.all _ rfl⟩
    have hsz : (⟨s.toArray⟩ : ByteArray).size = s.length := by show s.toArray.size = _; simp
    have hum : um = none := by cases um with | none => rfl | some v => exact h3.elim
    subst hum
    have hex : (⟨s.toArray⟩ : ByteArray).extract l hh = ⟨((s.take hh).drop l).toArray⟩ := by
      apply ByteArray.ext
      simp [ByteArray.data_extract, List.extract_eq_take_drop, List.drop_take]
    simp [Instr.sliceAt, run_underlying he, Instr.slice, hsz, hr, hex]
  · rename_i e he
    have hrun : ∀ (a : Option Addr) (len cap l hh m sz : Nat), P.cellsOf e = sz → 0 < sz → (Instr.sliceBounds true len cap ul uh um).run P w = .ok (l, hh, m) w →
        (Instr.sliceAt t (.slice a len cap) ul uh um).run P w = .ok (.slice (if m = l then a else a.map (·.add (l * sz))) (hh - l) (m - l)) w := by
      intro a len cap l hh m sz e1 e2 hr
      have hs : (sizeOf e).run P w = .ok sz w := by rw [← e1]; exact run_sizeOf (by omega)
      simp [Instr.sliceAt, run_underlying he, Instr.slice, hr, hs]
    cases hx <;> (try exact h.elim)
    case sl0 sz a cap =>
      obtain ⟨hc0, h⟩ := chk_spec h
      simp only [Bool.and_eq_true, Nat.beq_eq, Nat.blt_eq] at hc0
      obtain ⟨e1, e2⟩ := hc0
      obtain ⟨l, hh, m, hr, g1, g2, g3, g4, _, g5⟩ := boundsV_sound (P := P) (isS := true) (n := 0) (cap := cap) (Nat.zero_le _) h1 h2 h3 h
      have : hh - l = 0 := by omega
      refine ⟨_, _, hrun _ _ _ _ _ _ _ e1 e2 hr, ?_, g5.all _ rfl⟩
      rw [this]; simp only [List.take_nil, List.drop_nil]; exact .sl0 _ _ _
    case nils =>
      obtain ⟨e2, h⟩ := chk_spec h
      simp only [Nat.blt_eq] at e2
      obtain ⟨l, hh, m, hr, g1, g2, g3, g4, _, g5⟩ := boundsV_sound (P := P) (isS := true) (n := 0) (cap := 0) (Nat.zero_le _) h1 h2 h3 h
      have : hh - l = 0 := by omega
      have h4 : m - l = 0 := by omega
      refine ⟨_, _, hrun _ _ _ _ _ _ _ rfl e2 hr, ?_, g5⟩
      rw [this, h4]
      split <;> exact .nils
    case sl sz es b o cap hcap vs hz hk hv =>
      obtain ⟨hc0, h⟩ := chk_spec h
      simp only [Bool.and_eq_true, Nat.beq_eq, Nat.blt_eq] at hc0
      obtain ⟨e1, e2⟩ := hc0
      obtain ⟨l, hh, m, hr, g1, g2, g3, g4, _, g5⟩ := boundsV_sound (P := P) (isS := true) (n := es.length) (cap := cap) hcap h1 h2 h3 h
      refine ⟨_, _, hrun _ _ _ _ _ _ _ e1 e2 hr, ?_, g5.all _ rfl⟩
      have hlen : ((es.take hh).drop l).length = hh - l := by simp; omega
      by_cases he0 : hh - l = 0
      · have : (es.take hh).drop l = [] := List.eq_nil_of_length_eq_zero (by omega)
        rw [this, he0]; exact .sl0 _ _ _
      · have hml : ¬ m = l := by omega
        rw [if_neg hml]
        simp only [Option.map_some, addr_add]
        rw [← hlen]
        refine .sl sz _ b (o + l * sz) (m - l) (by omega) (fun i j => vs (l + i) j) (fun e' he' => hz _ (List.mem_of_mem_take (List.mem_of_mem_drop he'))) (fun i j hi hj => ?_) (fun i j hi hj => ?_)
        · have := hk (l + i) j (by omega) hj
          rw [Nat.add_mul] at this
          rw [show o + l * sz + i * sz + j = o + (l * sz + i * sz) + j by omega]; exact this
        · rw [getD_pair _ _ _ _ (by omega)]; exact hv (l + i) j (by omega) hj
    case rsl b sz i n o cap ho hc hs =>
      obtain ⟨hc0, h⟩ := chk_spec h
      simp only [Bool.and_eq_true, Nat.beq_eq, Nat.blt_eq] at hc0
      obtain ⟨e1, e2⟩ := hc0
      obtain ⟨l, hh, m, hr, g1, g2, g3, g4, _, g5⟩ := boundsV_sound (P := P) (isS := true) (n := n) (cap := cap) hc h1 h2 h3 h
      refine ⟨_, _, hrun _ _ _ _ _ _ _ e1 e2 hr, ?_, g5⟩
      obtain ⟨e', mm, hs1, hs2⟩ := hs
      by_cases hml : m = l
      · rw [if_pos hml]
        have : hh - l = 0 := by omega
        rw [this]
        exact .rsl b sz _ _ o _ (fun hq => by
          rcases hq with hq | hq
          · exact absurd rfl hq
          · have h0 : i = 0 := by omega
            have h0' : l = 0 := by omega
            subst h0 h0'
            rw [ho (.inr rfl)]) (by omega) ⟨e', mm, hs1, by
              have : m - l = 0 := by omega
              rw [this]; omega⟩
      · rw [if_neg hml]
        simp only [Option.map_some, addr_add]
        refine .rsl b sz _ _ _ _ (fun hq => ?_) (by omega) ⟨e', mm, hs1, ?_⟩
        · have : n ≠ 0 ∨ i = 0 := by omega
          rw [ho this, Nat.add_mul]
        · have h6 : l * sz + (m - l) * sz ≤ cap * sz := by
            rw [← Nat.add_mul]; exact Nat.mul_le_mul_right _ (by omega)
          omega
  · exact h.elim

theorem convV_sound {src dst : TypeId} {x : PV} {u : Value} {k : PV → Prop} (hx : VRel K w x u) (h : convV P src dst x k) :
    ∃ pv r, (convert src dst u).run P w = .ok r w ∧ VRel K w pv r ∧ k pv := by
  simp only [convV] at h
  split at h
  case h_2 => exact h.elim
  rename_i s d hs hd
  cases hx <;> (try exact h.elim)
  case int ik n =>
    simp only at h
    split at h
    · exact ⟨_, _, by simp [convert, run_underlying hs, run_underlying hd, Conv.intToInt], .int _ _, inV_spec h⟩
    · refine ⟨_, .string ⟨(Utf8.encode n).data.toList.toArray⟩, ?_, .str _, h⟩
      simp [convert, run_underlying hs, run_underlying hd, Conv.intToString]
    · exact h.elim
  case str l =>
    simp only at h
    split at h
    · exact ⟨_, _, by simp [convert, run_underlying hs, run_underlying hd], .str _, h⟩
    · exact h.elim
  case sl0 sz a cap =>
    simp only at h
    split at h
    case h_2 => exact h.elim
    rename_i e
    split at h
    case h_2 => exact h.elim
    rename_i he
    obtain ⟨h1, ns, h2, h3⟩ := chk_spec h
    obtain rfl : ns = [] := by cases ns with | nil => rfl | cons a b => simp at h2
    refine ⟨_, .string ⟨([] : List UInt8).toArray⟩, ?_, .str _, h3⟩
    rw [run_convert_bytes_string w src dst e _ _ _ hs he hd]
    cases a with
    | none => rfl
    | some a => exact run_bytesToString (P := P) w a 0 cap [] rfl
  case nils =>
    simp only at h
    split at h
    case h_2 => exact h.elim
    rename_i e
    split at h
    case h_2 => exact h.elim
    rename_i he
    refine ⟨_, .string ⟨([] : List UInt8).toArray⟩, ?_, .str _, h⟩
    rw [run_convert_bytes_string w src dst e _ _ _ hs he hd]
    rfl
  case tpt e n b hsh =>
    simp only at h
    split at h
    · rename_i t
      obtain ⟨hc, h⟩ := chk_spec h
      simp only [Bool.and_eq_true] at hc
      obtain ⟨h1, h2⟩ := hc
      unfold infoB at h2
      split at h2
      case h_2 => cases h2
      rename_i j hj
      exact ⟨_, _, Lib.run_to_unsafe w ⟨b, 0, none⟩ hs hd hj (by rw [Nat.blt_eq] at h2; omega) hsh (by simpa using h1), .tpt _ _ _ hsh, h⟩
    · rename_i t
      obtain ⟨hc, h⟩ := chk_spec h
      simp only [Bool.and_eq_true] at hc
      obtain ⟨h1, h2⟩ := hc
      obtain ⟨j, hj⟩ := Option.isSome_iff_exists.1 h1
      exact ⟨_, _, Lib.run_from_unsafe w ⟨b, 0, none⟩ hs hd hj hsh h2, .tpt _ _ _ hsh, h⟩
    · exact h.elim
  case sl sz es b o cap hcap vs hz hk hv =>
    simp only at h
    split at h
    case h_2 => exact h.elim
    rename_i e
    split at h
    case h_2 => exact h.elim
    rename_i he
    obtain ⟨hs1, ns, rfl, h3⟩ := chk_spec h
    obtain rfl : sz = 1 := by simpa using hs1
    refine ⟨_, .string ⟨(ns.map fun n => UInt8.ofNat n.toNat).toArray⟩, ?_, .str _, h3⟩
    rw [run_convert_bytes_string w src dst e _ _ _ hs he hd]
    have hl : (loadCells ⟨b, o, none⟩ (ns.map (PV.int .u8)).length).run P w = .ok (ns.map (Value.int .u8)).toArray w := by
      rw [run_loadCells w ⟨b, o, none⟩ _ (fun j => .int .u8 (ns.getD j 0)) (fun j hj => by
        rw [addr_add]
        have h4 := (hk j 0 hj (by omega)).2
        have h5 := hv j 0 hj (by omega)
        simp only [Nat.mul_one, Nat.add_zero] at h4
        rw [h4]
        have hj' : j < ns.length := by simpa using hj
        have h6 : ((ns.map (PV.int .u8)).getD j .dead) = .int .u8 (ns.getD j 0) := by simp [List.getD_eq_getElem?_getD, hj']
        rw [h6] at h5
        simp only [PV.flat, List.getD_cons_zero] at h5
        generalize vs j 0 = u at h5 ⊢
        cases h5; rfl)]
      congr 2
      apply List.ext_getElem?
      intro j
      by_cases hj : j < ns.length
      · simp [hj, List.getD_eq_getElem?_getD]
      · simp [hj]
    rw [run_bytesToString (P := P) w _ _ _ ns hl]
    congr 2
    have key : ∀ (l : List Int) (acc : ByteArray), l.foldl (fun r n => r.push (UInt8.ofNat n.toNat)) acc = ⟨acc.data ++ (l.map fun n => UInt8.ofNat n.toNat).toArray⟩ := by
      intro l
      induction l with
      | nil => intro acc; apply ByteArray.ext; simp
      | cons n l ih => intro acc; rw [List.foldl_cons, ih]; apply ByteArray.ext; simp [ByteArray.push]
    rw [key]; apply ByteArray.ext; simp

/-! ### Literals -/
/-- Whatever has a value for its cells. -/
theorem cellsB_spec {p : PV} {v : Value} (h : VRel K w p v) (hc : cellsB p = true) :
    p.flat.length = v.cells.size ∧ (∀ j, j < p.flat.length → VRel K w (p.flat.getD j .dead) (v.cells.getD j undef)) ∧ ∀ x ∈ v.cells.toList, x.oneCell' = true := by
  unfold cellsB at hc
  have one : ∀ {q : PV} {u : Value}, cellB q = true → VRel K w q u → u.oneCell' = true := by
    intro q u hq hr
    cases hr <;> first | rfl | exact hq | cases hq
  cases h with
  | agg cs vs hl h =>
    refine ⟨by simpa [PV.flat, Value.cells] using hl, fun j hj => by simpa [PV.flat, Value.cells] using h j hj, fun x hx => ?_⟩
    simp only [Value.cells] at hx
    obtain ⟨j, hj, rfl⟩ := List.getElem_of_mem hx
    have hj' : j < cs.length := by rw [hl]; simpa using hj
    have h1 := h j hj'
    have h2 : vs.getD j undef = vs[j]'(by omega) := by simp [List.getD_eq_getElem?_getD, show j < vs.length by omega]
    rw [h2] at h1
    refine one (List.all_eq_true.1 hc (cs.getD j .dead) ?_) (by simpa using h1)
    have : cs.getD j .dead = cs[j] := by simp [List.getD_eq_getElem?_getD, hj']
    simp only [PV.flat]
    rw [this]; exact List.getElem_mem hj'
  | dead v => simp [PV.flat, cellB] at hc
  | tup => simp [PV.flat, cellB] at hc
  | opt => simp [PV.flat, cellB] at hc
  | lit v =>
    simp only [PV.flat, List.all_cons, List.all_nil, Bool.and_true, cellB] at hc
    have : v.cells = #[v] := by cases v <;> first | rfl | (simp [Value.oneCell'] at hc)
    rw [this]
    refine ⟨rfl, fun j hj => ?_, fun x hx => ?_⟩
    · obtain rfl : j = 0 := by simp [PV.flat] at hj; exact hj
      exact .lit _
    · simp at hx; subst hx; exact hc
  | _ =>
    refine ⟨rfl, fun j hj => ?_, fun x hx => ?_⟩
    · obtain rfl : j = 0 := by simp [PV.flat] at hj; exact hj
      simp only [PV.flat, Value.cells, List.getD_cons_zero]
      first
        | exact VRel.bool _
        | exact VRel.int _ _
        | exact VRel.str _
        | exact VRel.sl0 _ _ _
        | exact VRel.nils
        | (apply VRel.bsl <;> assumption)
        | (apply VRel.bpt; assumption)
        | (apply VRel.tpt; assumption)
        | exact VRel.bref _ _
        | exact VRel.ref _ _ _ _
        | exact VRel.mp _
        | (apply VRel.sl <;> assumption)
        | (apply VRel.ip <;> assumption)
        | (apply VRel.rsl <;> assumption)
        | (apply VRel.fn <;> assumption)
        | (apply VRel.ifc; assumption)
    · simp only [Value.cells, List.mem_singleton] at hx
      subst hx; rfl

theorem zeroV_rel {t : TypeId} (hc : cellsB (zeroV P t) = true) : ∃ i v, P.info? t = some i ∧ i.zero = some v ∧ zeroV P t = ofV v := by
  unfold zeroV at hc ⊢
  cases hi : P.info? t with
  | none => simp [hi, cellsB, PV.flat, cellB] at hc
  | some i =>
    cases hz : i.zero with
    | none => simp [hi, hz, cellsB, PV.flat, cellB] at hc
    | some v => exact ⟨i, v, rfl, hz, by simp [hz]⟩

/-- A list of cells and what it is. -/
def LRel (K : Kn) (w : World) (ps : List PV) (vs : List Value) : Prop := ps.length = vs.length ∧ ∀ i, i < ps.length → VRel K w (ps.getD i .dead) (vs.getD i undef)

theorem length_splice {α : Type} (l : List α) (f : Nat) (vs : List α) (h : f + vs.length ≤ l.length) : (splice l f vs).length = l.length := by
  simp [splice]; omega
theorem getD_splice {α : Type} (l : List α) (f : Nat) (vs : List α) (d : α) (h : f + vs.length ≤ l.length) (i : Nat) :
    (splice l f vs).getD i d = if f ≤ i ∧ i < f + vs.length then vs.getD (i - f) d else l.getD i d := by
  have hm : min f l.length = f := by omega
  simp only [splice, List.getD_eq_getElem?_getD, List.getElem?_append, List.length_take, List.length_append, List.getElem?_take, List.getElem?_drop, hm]
  by_cases c1 : i < f
  · simp [c1, show i < f + vs.length by omega, show ¬ f ≤ i by omega]
  · by_cases c2 : i < f + vs.length
    · simp [c1, c2, show f ≤ i by omega]
    · simp [c2, show f + vs.length + (i - (f + vs.length)) = i by omega]

theorem LRel.splice {ps qs : List PV} {vs us : List Value} {f : Nat} (h : LRel K w ps vs) (g : LRel K w qs us) (hf : f + qs.length ≤ ps.length) :
    LRel K w (splice ps f qs) (splice vs f us) := by
  obtain ⟨h1, h2⟩ := h
  obtain ⟨g1, g2⟩ := g
  refine ⟨by rw [length_splice _ _ _ hf, length_splice _ _ _ (by omega), h1], fun i hi => ?_⟩
  rw [length_splice _ _ _ hf] at hi
  rw [getD_splice _ _ _ _ hf, getD_splice _ _ _ _ (by omega), g1]
  split
  · exact g2 _ (by omega)
  · exact h2 _ hi
theorem cells_LRel {p : PV} {v : Value} (h : VRel K w p v) (hc : cellsB p = true) : LRel K w p.flat v.cells.toList ∧ (∀ x ∈ v.cells.toList, x.oneCell' = true) := by
  obtain ⟨h1, h2, h3⟩ := cellsB_spec h hc
  exact ⟨⟨by simpa using h1, fun i hi => by
    have := h2 i hi
    have hi' : i < v.cells.size := by omega
    simpa [Array.getD, hi', List.getD_eq_getElem?_getD] using this⟩, h3⟩

/-- The parts laid into the cells. -/
theorem foldl_set (vs : List Value) (off : Nat) : ∀ (us : List Value) (cs : Array Value) (j : Nat), cs.toList = vs → off + j + us.length ≤ vs.length →
    ((us.zipIdx j).foldl (fun cs p => cs.setIfInBounds (off + p.2) p.1) cs).toList = splice vs (off + j) us
  | [], cs, j, hc, _ => by simp [splice, hc]
  | u :: us, cs, j, hc, hl => by
    simp only [List.length_cons] at hl
    simp only [List.zipIdx_cons, List.foldl_cons]
    rw [foldl_set (vs.set (off + j) u) off us _ (j + 1) (by rw [Array.toList_setIfInBounds, hc]) (by simp; omega)]
    apply List.ext_getElem?
    intro i
    have e1 : ∀ (l : List Value) (f : Nat) (xs : List Value), f + xs.length ≤ l.length → ∀ i, (splice l f xs)[i]? = if f ≤ i ∧ i < f + xs.length then xs[i - f]? else l[i]? := by
      intro l f xs h i
      have hm : min f l.length = f := by omega
      simp only [splice, List.getElem?_append, List.length_take, List.length_append, List.getElem?_take, List.getElem?_drop, hm]
      by_cases c1 : i < f
      · simp [c1, show i < f + xs.length by omega, show ¬ f ≤ i by omega]
      · by_cases c2 : i < f + xs.length
        · simp [c1, c2, show f ≤ i by omega]
        · simp [c2, show f + xs.length + (i - (f + xs.length)) = i by omega]
    rw [e1 _ _ _ (by simp; omega), e1 _ _ _ (by simp; omega)]
    simp only [List.length_cons, List.getElem?_set]
    by_cases c0 : i = off + j
    · subst c0
      rw [if_neg (by omega), if_pos rfl, if_pos (by omega), if_pos (by omega)]; simp
    · by_cases c1 : off + (j + 1) ≤ i ∧ i < off + (j + 1) + us.length
      · rw [if_pos c1, if_pos (by omega)]
        rw [show i - (off + j) = (i - (off + (j + 1))) + 1 by omega, List.getElem?_cons_succ]
      · rw [if_neg c1, if_neg (by omega), if_neg (by omega)]

theorem fill_sound {place : Nat → Option (Nat × Nat)} : ∀ (ps : List (Nat × PV)) (us : List (Nat × Value)) (cs : List PV) (vs : Array Value) (rs : List PV),
    ps.length = us.length → (∀ i, i < ps.length → (ps.getD i (0, .dead)).1 = (us.getD i (0, undef)).1 ∧ VRel K w (ps.getD i (0, .dead)).2 (us.getD i (0, undef)).2) →
    LRel K w cs vs.toList → fillV place cs ps = some rs → ∃ ws, Instr.fill place vs us = some ws ∧ LRel K w rs ws.toList
  | [], [], cs, vs, rs, _, _, hc, h => by
    simp only [fillV, Option.some.injEq] at h; subst h
    exact ⟨vs, rfl, hc⟩
  | (i, p) :: ps, (j, u) :: us, cs, vs, rs, hl, hr, hc, h => by
    have h0 := hr 0 (by simp)
    simp only [List.getD_cons_zero] at h0
    obtain ⟨rfl, h0⟩ := h0
    simp only [fillV] at h
    cases hp : place i with
    | none => simp [hp] at h
    | some os =>
      obtain ⟨off, size⟩ := os
      simp only [hp] at h
      cases hb : (Nat.beq p.flat.length size && Nat.ble (off + size) cs.length && cellsB p) with
      | false => simp [hb] at h
      | true =>
        simp only [hb, cond_true] at h
        simp only [Bool.and_eq_true, Nat.beq_eq, Nat.ble_eq] at hb
        obtain ⟨⟨b1, b2⟩, b3⟩ := hb
        obtain ⟨g1, g2⟩ := cells_LRel h0 b3
        have hvl : cs.length = vs.size := by simpa using hc.1
        have hul : u.cells.size = size := by have := g1.1; simp at this; omega
        have hst := foldl_set vs.toList off u.cells.toList vs 0 rfl (by simp; omega)
        simp only [Nat.add_zero] at hst
        obtain ⟨ws, f1, f2⟩ := fill_sound ps us (splice cs off p.flat) ((u.cells.zipIdx.foldl (fun cs (c, j) => cs.setIfInBounds (off + j) c) vs)) rs (by simpa using hl)
          (fun k hk => by have := hr (k + 1) (by simpa using hk); simpa using this)
          (by
            have e2 : (u.cells.zipIdx.foldl (fun cs (c, j) => cs.setIfInBounds (off + j) c) vs).toList = splice vs.toList off u.cells.toList := by
              rw [← hst, ← Array.foldl_toList]; simp
            rw [e2]
            exact hc.splice g1 (by omega)) h
        refine ⟨ws, ?_, f2⟩
        simp only [Instr.fill, hp]
        rw [if_neg (by simp; omega)]
        exact f1
  | [], _ :: _, _, _, _, hl, _, _, _ => by simp at hl
  | _ :: _, [], _, _, _, hl, _, _, _ => by simp at hl

theorem run_zeroValue {t : TypeId} {i : TypeInfo} {v : Value} (h : P.info? t = some i) (hz : i.zero = some v) : (zeroValue t).run P w = .ok v w := by
  simp [zeroValue, typeInfo, h, hz]
theorem flat_LRel {p : PV} {v : Value} (h : VRel K w p v) (hp : ∃ x, p = ofV x ∧ v = x) : LRel K w p.flat v.cells.toList := by
  obtain ⟨x, rfl, rfl⟩ := hp
  unfold ofV
  split
  · rename_i cs
    refine ⟨by simp [PV.flat, Value.cells], fun i hi => ?_⟩
    simp only [PV.flat, List.length_map, Array.length_toList] at hi
    have h1 : (cs.toList.map ofV1).getD i .dead = ofV1 (cs.toList.getD i undef) := by simp [List.getD_eq_getElem?_getD, hi]
    simp only [PV.flat, Value.cells]
    rw [h1]; exact ofV1_rel _
  · rename_i hna
    have hc : v.cells = #[v] := by cases v <;> first | rfl | exact absurd rfl (hna _)
    rw [hc]
    have hf : (ofV1 v).flat = [ofV1 v] := by
      unfold ofV1; split <;> rfl
    rw [hf]
    refine ⟨rfl, fun i hi => ?_⟩
    obtain rfl : i = 0 := by simp at hi; exact hi
    exact ofV1_rel v

theorem buildV_sound {t : TypeId} {ps : List (Nat × PV)} {us : List (Nat × Value)} {k : PV → Prop} (hl : ps.length = us.length)
    (hr : ∀ i, i < ps.length → (ps.getD i (0, .dead)).1 = (us.getD i (0, undef)).1 ∧ VRel K w (ps.getD i (0, .dead)).2 (us.getD i (0, undef)).2)
    (h : buildV P t ps k) : ∃ pv r, (Instr.build t us.toArray).run P w = .ok r w ∧ VRel K w pv r ∧ k pv := by
  unfold buildV at h
  split at h
  case h_2 => exact h.elim
  rename_i rs hrs
  have key : ∃ ws, P.built t us = some ws ∧ LRel K w rs ws.toList := by
    unfold builtV at hrs
    unfold Program.built
    split at hrs
    · rename_i it e hit he
      split at hrs
      · rename_i z ie hz hie
        obtain ⟨ws, f1, f2⟩ := fill_sound ps us _ z.cells rs hl hr (flat_LRel (ofV_rel z) ⟨z, rfl, rfl⟩) hrs
        exact ⟨ws, by simp [hit, he, hz, hie, f1], f2⟩
      · cases hrs
    · rename_i it fs hit he
      split at hrs
      · rename_i z pl hz hpl
        obtain ⟨ws, f1, f2⟩ := fill_sound ps us _ z.cells rs hl hr (flat_LRel (ofV_rel z) ⟨z, rfl, rfl⟩) hrs
        refine ⟨ws, ?_, f2⟩
        simp only [hit, he, hz, hpl]
        simpa using f1
      · cases hrs
    · cases hrs
  obtain ⟨ws, h1, h2⟩ := key
  refine ⟨_, .agg ws.toList.toArray, ?_, .agg rs ws.toList h2.1 h2.2, h⟩
  simpa using run_build (P := P) w t us.toArray ws (by simpa using h1)

/-- The elements of a slice literal, as cells. -/
def flats (es : List PV) : List PV := es.flatMap PV.flat

theorem flats_length {es : List PV} {sz : Nat} (h : ∀ e ∈ es, e.flat.length = sz) : (flats es).length = es.length * sz := by
  induction es with
  | nil => simp [flats]
  | cons e es ih =>
    have := ih fun x hx => h x (List.mem_cons_of_mem _ hx)
    simp only [flats, List.flatMap_cons, List.length_append, List.length_cons] at *
    rw [this, h e List.mem_cons_self, Nat.add_mul]; omega
theorem flats_getD {es : List PV} {sz : Nat} (h : ∀ e ∈ es, e.flat.length = sz) : ∀ i j, i < es.length → j < sz → (flats es).getD (i * sz + j) .dead = (es.getD i .dead).flat.getD j .dead := by
  induction es with
  | nil => intro i j hi; simp at hi
  | cons e es ih =>
    intro i j hi hj
    have h0 := h e List.mem_cons_self
    cases i with
    | zero => simp [flats, List.getD_eq_getElem?_getD, List.getElem?_append, h0, hj]
    | succ i =>
      have := ih (fun x hx => h x (List.mem_cons_of_mem _ hx)) i j (by simpa using hi) hj
      simp only [flats, List.flatMap_cons, List.getD_eq_getElem?_getD, List.getElem?_append, List.getElem?_cons_succ] at *
      rw [if_neg (by rw [h0, Nat.add_mul]; omega), h0, show (i + 1) * sz + j - sz = i * sz + j by rw [Nat.add_mul]; omega]
      exact this
theorem flats_set {es : List PV} {sz : Nat} (h : ∀ e ∈ es, e.flat.length = sz) (p : PV) (hp : p.flat.length = sz) : ∀ i, i < es.length → flats (es.set i p) = splice (flats es) (i * sz) p.flat := by
  intro i hi
  have h' : ∀ e ∈ es.set i p, e.flat.length = sz := fun e he => by
    rcases List.mem_or_eq_of_mem_set he with h1 | rfl
    · exact h e h1
    · exact hp
  have hb : i * sz + p.flat.length ≤ (flats es).length := by
    rw [flats_length h, hp]
    have : (i + 1) * sz ≤ es.length * sz := Nat.mul_le_mul_right _ hi
    rw [Nat.add_mul] at this; omega
  apply List.ext_getElem
  · rw [length_splice _ _ _ hb, flats_length h, flats_length h']; simp
  · intro n h1 h2
    have e1 : (flats (es.set i p))[n] = (flats (es.set i p)).getD n .dead := by simp [List.getD_eq_getElem?_getD, h1]
    have e2 : (splice (flats es) (i * sz) p.flat)[n] = (splice (flats es) (i * sz) p.flat).getD n .dead := by simp [List.getD_eq_getElem?_getD, h2]
    rw [e1, e2, getD_splice _ _ _ _ hb]
    rw [flats_length h'] at h1
    have hsz : 0 < sz := by
      rcases Nat.eq_zero_or_pos sz with rfl | h0
      · simp at h1
      · exact h0
    have hn : n = n / sz * sz + n % sz := by rw [Nat.mul_comm]; exact (Nat.div_add_mod n sz).symm
    have hq : n / sz < es.length := by
      have : n < es.length * sz := by simpa using h1
      exact (Nat.div_lt_iff_lt_mul hsz).2 this
    have hm : n % sz < sz := Nat.mod_lt _ hsz
    rw [hp]
    conv => lhs; rw [hn]
    rw [flats_getD h' _ _ (by simpa using hq) hm]
    by_cases hqi : n / sz = i
    · have h3 : i * sz ≤ n ∧ n < i * sz + sz := by rw [hqi] at hn; omega
      rw [if_pos h3, hqi, show n - i * sz = n % sz by rw [hqi] at hn; omega]
      simp [List.getD_eq_getElem?_getD, hi]
    · have h3 : ¬ (i * sz ≤ n ∧ n < i * sz + sz) := by
        rintro ⟨g1, g2⟩
        apply hqi
        have : n / sz = i := Nat.div_eq_of_lt_le g1 (by rw [Nat.add_mul]; omega)
        exact this
      rw [if_neg h3]
      conv => rhs; rw [hn]
      rw [flats_getD h _ _ hq hm]
      simp [List.getD_eq_getElem?_getD, Ne.symm hqi]

theorem fillE_sound {sz : Nat} : ∀ (ps : List (Nat × PV)) (us : List (Nat × Value)) (es : List PV) (vs : Array Value) (rs : List PV),
    ps.length = us.length → (∀ i, i < ps.length → (ps.getD i (0, .dead)).1 = (us.getD i (0, undef)).1 ∧ VRel K w (ps.getD i (0, .dead)).2 (us.getD i (0, undef)).2) →
    (∀ e ∈ es, e.flat.length = sz) → LRel K w (flats es) vs.toList → fillE sz es ps = some rs →
    ∃ ws, Instr.fill (fun i => some (i * sz, sz)) vs us = some ws ∧ LRel K w (flats rs) ws.toList ∧ rs.length = es.length ∧ ∀ e ∈ rs, e.flat.length = sz
  | [], [], es, vs, rs, _, _, hz, hc, h => by
    simp only [fillE, Option.some.injEq] at h; subst h
    exact ⟨vs, rfl, hc, rfl, hz⟩
  | (i, p) :: ps, (j, u) :: us, es, vs, rs, hl, hr, hz, hc, h => by
    have h0 := hr 0 (by simp)
    simp only [List.getD_cons_zero] at h0
    obtain ⟨rfl, h0⟩ := h0
    simp only [fillE] at h
    cases hb : (Nat.beq p.flat.length sz && Nat.blt i es.length && cellsB p) with
    | false => simp [hb] at h
    | true =>
      simp only [hb, cond_true] at h
      simp only [Bool.and_eq_true, Nat.beq_eq, Nat.blt_eq] at hb
      obtain ⟨⟨b1, b2⟩, b3⟩ := hb
      obtain ⟨g1, g2⟩ := cells_LRel h0 b3
      have hfl := flats_length hz
      have hbd : i * sz + sz ≤ es.length * sz := by
        have : (i + 1) * sz ≤ es.length * sz := Nat.mul_le_mul_right _ b2
        rw [Nat.add_mul] at this; omega
      have hvl : es.length * sz = vs.size := by rw [← hfl]; simpa using hc.1
      have hul : u.cells.size = sz := by have := g1.1; simp at this; omega
      have hst := foldl_set vs.toList (i * sz) u.cells.toList vs 0 rfl (by simp; omega)
      simp only [Nat.add_zero] at hst
      obtain ⟨ws, f1, f2, f3, f4⟩ := fillE_sound ps us (es.set i p) ((u.cells.zipIdx.foldl (fun cs (c, j) => cs.setIfInBounds (i * sz + j) c) vs)) rs (by simpa using hl)
        (fun k hk => by have := hr (k + 1) (by simpa using hk); simpa using this)
        (fun e he => by
          rcases List.mem_or_eq_of_mem_set he with h1 | rfl
          · exact hz e h1
          · exact b1)
        (by
          have e2 : (u.cells.zipIdx.foldl (fun cs (c, j) => cs.setIfInBounds (i * sz + j) c) vs).toList = splice vs.toList (i * sz) u.cells.toList := by
            rw [← hst, ← Array.foldl_toList]; simp
          rw [e2, flats_set hz p b1 i b2]
          exact hc.splice g1 (by omega)) h
      refine ⟨ws, ?_, f2, by simpa using f3, f4⟩
      simp only [Instr.fill]
      rw [if_neg (by simp; omega)]
      exact f1
  | [], _ :: _, _, _, _, hl, _, _, _, _ => by simp at hl
  | _ :: _, [], _, _, _, hl, _, _, _, _ => by simp at hl
end Go.Eng
